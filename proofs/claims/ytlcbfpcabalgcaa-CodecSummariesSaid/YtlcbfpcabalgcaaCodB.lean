/-
  Codec: the form that reads: wide, word, int, more.
-/
import Derived.Test.YtlcbfpcabalgcaaCodA
import Derived.Deep.QuietTactic
import Derived.BigQuiet
namespace Go.Proofs.Ytlcbfpcabalgcaa
open Go.RowKit
set_option linter.unusedVariables false
set_option linter.unusedSimpArgs false
set_option linter.unnecessarySimpa false
/-- A slice's block is none of F. -/
def Apart (F : Nat → Prop) (v : Value) (l : List UInt8) : Prop := l ≠ [] → ∀ b o n c, v = .slice (some ⟨b, o, none⟩) n c → ¬ F b
theorem byt_keep {F : Nat → Prop} {w w' : World} {v : Value} {l : List UInt8} (h : Byt w v l) (hk : Keep F w w') (hv : Apart F v l) : Byt w' v l := by
  rcases h with h | ⟨b, o, c, h1, h2, h3, h4⟩
  · exact .inl h
  · exact .inr ⟨b, o, c, h1, h2, h3, fun i hi => hk.cell (h4 i hi) (hv (fun e => by rw [e] at hi; simp at hi) b o _ c h1)⟩
structure CrAt (w : World) (g : Nat) (v : Value) (l : List UInt8) (a : Nat) (bad : Bool) : Prop where
  box : w.heap[g]? = some (.cells #[v, .int .i64 (a : Int), .bool bad] 181 (0, 0))
  byt : Byt w v l
  apart : Apart (· = g) v l
def rN (l : List UInt8) (a k : Nat) : Nat := getN l a k
def rOk (l : List UInt8) (a k : Nat) : Bool := fitsB l.length a k
theorem rN_lt (l : List UInt8) (a k : Nat) : rN l a k < 256 ^ k := by
  unfold rN getN
  split
  · exact part_lt _ _ _
  · exact Nat.pow_pos (by decide)
theorem CrAt.below {w w' : World} {g a : Nat} {v : Value} {l : List UInt8} {bad : Bool} (h : CrAt w g v l a bad) (hb : Below w.heap.size w w') : CrAt w' g v l a bad := ⟨old_heap h.box hb, h.byt.below hb, h.apart⟩
/-- What a reading of a number leaves: the form, a cell, nothing else of what was there. -/
structure CrTo (w : World) (g : Nat) (v : Value) (l : List UInt8) (a : Nat) (bad : Bool) (pb po : Nat) (cs : Array Value) (T : TypeId) (u : Value) (w' : World) : Prop where
  form : CrAt w' g v l a bad
  cell : w'.heap[pb]? = some (.cells (cs.setIfInBounds po u) T (0, 0))
  keep : Keep (fun b => b = g ∨ b = pb) w w'
section
variable {w : World} {g a : Nat} {v : Value} {l : List UInt8} {bad : Bool}
theorem cr_end {w2 : World} {k pb po : Nat} {cs : Array Value} {T : TypeId} {u : Value} {b : Bool} (hx : w2.heap[g]? = some (.cells #[v, .int .i64 (a : Int), .bool bad] 181 (0, 0))) (hy : w2.heap[pb]? = some (.cells cs T (0, 0))) (hbt : Byt w2 v l) (hap : Apart (· = g) v l) (hk : Keep (fun b => b = g ∨ b = pb) w w2) (hpg : pb ≠ g) (hv : Apart (· = pb) v l) :
    CrTo w g v l (a + k) b pb po cs T u (((w2.setCell ⟨pb, po, none⟩ u).setCell ⟨g, 2, none⟩ (.bool b)).setCell ⟨g, 1, none⟩ (.int .i64 ((a : Int) + (k : Int)))) := by
  have hx1 := (Below.heap_setCell w2 ⟨pb, po, none⟩ u g (fun e => hpg e.symm)).trans hx
  have hx3 := head_set (head_set hx1 2 (.bool b)) 1 (.int .i64 ((a : Int) + (k : Int)))
  have hk3 : Keep (fun b => b = g ∨ b = pb) w2 (((w2.setCell ⟨pb, po, none⟩ u).setCell ⟨g, 2, none⟩ (.bool b)).setCell ⟨g, 1, none⟩ (.int .i64 ((a : Int) + (k : Int)))) :=
    (((Keep.refl _ w2).setCell pb po u (.inr rfl)).setCell g 2 _ (.inl rfl)).setCell g 1 _ (.inl rfl)
  refine ⟨⟨by simpa using hx3, byt_keep hbt hk3 (fun hne b o n c e f => by rcases f with f | f; exact hap hne b o n c e f; exact hv hne b o n c e f), hap⟩, ?_, hk.trans hk3⟩
  exact (Below.heap_setCell _ ⟨g, 1, none⟩ _ pb hpg).trans ((Below.heap_setCell _ ⟨g, 2, none⟩ _ pb hpg).trans (head_set hy po u))
set_option maxRecDepth 10000 in
set_option maxHeartbeats 4000000 in
theorem cr_wide (k pb po : Nat) (cs : Array Value) (T : TypeId) (z : Nat) (h : CrAt w g v l a bad) (hk : 1 ≤ k ∧ k ≤ 8) (ha : a ≤ 1000) (hl : l.length ≤ 1000) (hb : w.heap[pb]? = some (.cells cs T (0, 0))) (hc : cs[po]? = some (.int .u64 (z : Int))) (hpg : pb ≠ g) (hv : Apart (· = pb) v l) :
    Calls Try.prog 134 #[.pointer (some ⟨g, 0, none⟩), .int .i64 (k : Int), .pointer (some ⟨pb, po, none⟩)] w fun e w' => e = .returned (.tuple #[]) ∧ CrTo w g v l (a + k) (bad || !rOk l a k) pb po cs T (.int .u64 (rN l a k : Int)) w' := by
  have HC := Lib.hid h
  have h0 := cell_row h.box 0
  have h1 := cell_row h.box 1
  have h2 := cell_row h.box 2
  have hG := fun n => Lib.hid (get_any v l (a : Int) (k : Int) (w.drewN n) (by omega) (byt_keep (F := fun _ => False) h.byt ((Keep.refl _ _).drewN n) (fun _ _ _ _ _ _ e => e)))
  obtain ⟨sv, nv, cv, rfl⟩ : ∃ s n c, v = .slice s n c := by
    rcases h.byt with ⟨_, A, c, e, _⟩ | ⟨b, o, c, e, _⟩
    · exact ⟨_, _, _, e⟩
    · exact ⟨_, _, _, e⟩
  have hgE : getE l.length (a : Int) (k : Int) = (if rOk l a k then 0 else 1) := rfl
  have hgN : getN l (a : Int) (k : Int) = rN l a k := rfl
  rw [hgE, hgN] at hG
  have HB := Lib.hid hb
  have HCC := Lib.hid hc
  obtain ⟨b1, hb1⟩ : ∃ b1, rOk l a k = b1 := ⟨_, rfl⟩
  rw [hb1] at hG ⊢
  obtain ⟨b2, hb2⟩ : ∃ b2, (bad || !b1) = b2 := ⟨_, rfl⟩
  have HB2 := Lib.hid hb2
  rw [hb2]
  clear h hgE hgN hb hc hb1 hb2
  cases b1 <;> cases bad
  all_goals
    go_enter Try.func134, Try.ntmps134
    go_upto_region 0 with fail
    go_quiet ((go_at_call 86; exact Calls.quiet_of_same ((hG _).out.mono fun _ _ h => ⟨h.1, h.2.symm⟩)))
    rename_i nq
    have hk0 := (Keep.refl (fun b => b = g ∨ b = pb) w).drewN nq
    have e1 : (w.drewN nq).cell? ⟨g, 1, none⟩ = some (.int .i64 (a : Int)) := h1
    have hx : (w.drewN nq).heap[g]? = w.heap[g]? := rfl
    have hy : (w.drewN nq).heap[pb]? = w.heap[pb]? := rfl
    rw [HC.out.box] at hx
    rw [HB.out] at hy
    have hbt := byt_keep (F := fun _ => False) HC.out.byt ((Keep.refl _ _).drewN nq) (fun _ _ _ _ _ _ e => e)
    revert hk0 hx hy hbt
    generalize w.drewN nq = w2
    intro hk0 hx hy hbt
    clear hG h0 h1 h2 e1
    have h1 : w2.cell? ⟨g, 1, none⟩ = some (.int .i64 (a : Int)) := cell_row hx 1
    have h2 : w2.cell? ⟨g, 2, none⟩ = some (.bool _) := cell_row hx 2
    have hpc : w2.cell? ⟨pb, po, none⟩ = some (.int .u64 (z : Int)) := (cell_row hy po).trans HCC.out
    have f0 := free_row hy po
    have f1 := free_row hx 1
    have f2 := free_row hx 2
    have HX := Lib.hid hx
    have HY := Lib.hid hy
    have HBT := Lib.hid hbt
    have HK := Lib.hid hk0
    have hgp : g ≠ pb := fun e => hpg e.symm
    clear hx hy hbt hk0
    go_wp2
    go_end0
    have hb := HB2.out
    subst hb
    exact ⟨rfl, cr_end HX.out HY.out HBT.out HC.out.apart HK.out hpg hv⟩
theorem byt_apart {w : World} {v : Value} {l : List UInt8} (h : Byt w v l) : Apart (· = w.heap.size) v l := fun hne b o n c e f => by
  rcases h with ⟨h, _⟩ | ⟨b', o', c', h1, h2, h3, h4⟩
  · exact hne h
  · rw [e] at h1
    cases h1
    have := h4.lt (List.length_pos_iff.2 hne)
    dsimp only at f
    omega
theorem cr_back {w1 w2 : World} {k b6 pb po : Nat} {bad2 : Bool} {cs cs6 : Array Value} {T T6 : TypeId} {u u6 : Value} (hba : Below w.heap.size w w1) (hc : CrTo w1 g v l (a + k) bad2 b6 0 cs6 T6 u6 w2) (hpb : w2.heap[pb]? = some (.cells cs T (0, 0))) (hpg : pb ≠ g) (hv : Apart (· = pb) v l) (hb6 : w.heap.size ≤ b6) :
    CrTo w g v l (a + k) bad2 pb po cs T u (w2.setCell ⟨pb, po, none⟩ u) := by
  have hk1 : Keep (· = pb) w2 (w2.setCell ⟨pb, po, none⟩ u) := (Keep.refl (fun b => b = pb) w2).setCell pb po u rfl
  refine ⟨⟨(Below.heap_setCell w2 ⟨pb, po, none⟩ u g (fun e => hpg e.symm)).trans hc.form.box, byt_keep hc.form.byt hk1 hv, hc.form.apart⟩, head_set hpb po u, ?_⟩
  have h1 : Keep (fun b => b = g ∨ b = pb) w w2 := (Keep.of_below hba).trans' hc.keep (fun i hi hf => by rcases hf with e | e; exact .inl e; omega)
  exact h1.trans (Keep.mono hk1 (fun b e => .inr e))
set_option maxRecDepth 10000 in
set_option maxHeartbeats 4000000 in
theorem cr_word (k pb po : Nat) (cs : Array Value) (T : TypeId) (z : Int) (h : CrAt w g v l a bad) (hk : 1 ≤ k ∧ k ≤ 4) (ha : a ≤ 1000) (hl : l.length ≤ 1000) (hb : w.heap[pb]? = some (.cells cs T (0, 0))) (hc : cs[po]? = some (.int .u32 z)) (hpg : pb ≠ g) (hv : Apart (· = pb) v l) :
    Calls Try.prog 135 #[.pointer (some ⟨g, 0, none⟩), .int .i64 (k : Int), .pointer (some ⟨pb, po, none⟩)] w fun e w' => e = .returned (.tuple #[]) ∧ CrTo w g v l (a + k) (bad || !rOk l a k) pb po cs T (.int .u32 (rN l a k : Int)) w' := by
  have hgl : g < w.heap.size := (Array.getElem?_eq_some_iff.1 h.box).1
  have hpl : pb < w.heap.size := (Array.getElem?_eq_some_iff.1 hb).1
  have hba := (Below.refl w.heap.size w).alloc (Nat.le_refl _) (.cells #[.int .u64 0] 43)
  have hnew := new_heap w (.cells #[.int .u64 0] 43 (0, 0))
  have hvn : Apart (· = w.heap.size) v l := byt_apart h.byt
  have HW := Lib.hid (cr_wide k w.heap.size 0 #[.int .u64 0] 43 0 (h.below hba) ⟨hk.1, by omega⟩ ha hl hnew rfl (by omega) hvn)
  have HB := Lib.hid hba
  have HP := Lib.hid (old_heap hb hba)
  have HC := Lib.hid hc
  have hx := rN_lt l a k
  have hxl : rN l a k < 4294967296 := Nat.lt_of_lt_of_le hx (Nat.pow_le_pow_right (n := 256) (by decide) hk.2)
  obtain ⟨x, hxe⟩ : ∃ x, rN l a k = x := ⟨_, rfl⟩
  obtain ⟨b2, hb2⟩ : ∃ b2, (bad || !rOk l a k) = b2 := ⟨_, rfl⟩
  rw [hxe, hb2] at HW
  rw [hxe, hb2]
  rw [hxe] at hxl
  have hcv : IntKind.u32.wrap (x : Int) = (x : Int) := by unfold IntKind.wrap; simp [IntKind.signed, IntKind.bits]; omega
  clear hx hxe hb2 h hba hnew hb hc
  go_enter Try.func135, Try.ntmps135
  go_wp2_with (first
    | (go_at_call 134; go_must (refine HW.out.mono ?_; rintro e w2 ⟨rfl, hct⟩; have hbx := hct.cell; have hpb2 := hct.keep.heap HP.out (by omega); have k0 : w2.cell? ⟨w.heap.size, 0, none⟩ = some (.int .u64 (x : Int)) := cell_row hbx 0; have k1 : w2.cell? ⟨pb, po, none⟩ = some (.int .u32 z) := (cell_row hpb2 po).trans HC.out; have f1 := free_row hpb2 po; have HCT := Lib.hid hct; have HPB := Lib.hid hpb2; clear hct hbx hpb2)))
  go_end0
  exact ⟨rfl, cr_back HB.out HCT.out HPB.out hpg hv (Nat.le_refl _)⟩
set_option maxRecDepth 10000 in
set_option maxHeartbeats 4000000 in
theorem cr_int (k pb po : Nat) (cs : Array Value) (T : TypeId) (z : Int) (h : CrAt w g v l a bad) (hk : 1 ≤ k ∧ k ≤ 4) (ha : a ≤ 1000) (hl : l.length ≤ 1000) (hb : w.heap[pb]? = some (.cells cs T (0, 0))) (hc : cs[po]? = some (.int .i64 z)) (hpg : pb ≠ g) (hv : Apart (· = pb) v l) :
    Calls Try.prog 132 #[.pointer (some ⟨g, 0, none⟩), .int .i64 (k : Int), .pointer (some ⟨pb, po, none⟩)] w fun e w' => e = .returned (.tuple #[]) ∧ CrTo w g v l (a + k) (bad || !rOk l a k) pb po cs T (.int .i64 (rN l a k : Int)) w' := by
  have hgl : g < w.heap.size := (Array.getElem?_eq_some_iff.1 h.box).1
  have hpl : pb < w.heap.size := (Array.getElem?_eq_some_iff.1 hb).1
  have hba := (Below.refl w.heap.size w).alloc (Nat.le_refl _) (.cells #[.int .u64 0] 43)
  have hnew := new_heap w (.cells #[.int .u64 0] 43 (0, 0))
  have hvn : Apart (· = w.heap.size) v l := byt_apart h.byt
  have HW := Lib.hid (cr_wide k w.heap.size 0 #[.int .u64 0] 43 0 (h.below hba) ⟨hk.1, by omega⟩ ha hl hnew rfl (by omega) hvn)
  have HB := Lib.hid hba
  have HP := Lib.hid (old_heap hb hba)
  have HC := Lib.hid hc
  have hx := rN_lt l a k
  have hxl : rN l a k < 4294967296 := Nat.lt_of_lt_of_le hx (Nat.pow_le_pow_right (n := 256) (by decide) hk.2)
  obtain ⟨x, hxe⟩ : ∃ x, rN l a k = x := ⟨_, rfl⟩
  obtain ⟨b2, hb2⟩ : ∃ b2, (bad || !rOk l a k) = b2 := ⟨_, rfl⟩
  rw [hxe, hb2] at HW
  rw [hxe, hb2]
  rw [hxe] at hxl
  have hcv : IntKind.i64.wrap (x : Int) = (x : Int) := IntWalk.i64_in _ (by omega)
  clear hx hxe hb2 h hba hnew hb hc
  go_enter Try.func132, Try.ntmps132
  go_wp2_with (first
    | (go_at_call 134; go_must (refine HW.out.mono ?_; rintro e w2 ⟨rfl, hct⟩; have hbx := hct.cell; have hpb2 := hct.keep.heap HP.out (by omega); have k0 : w2.cell? ⟨w.heap.size, 0, none⟩ = some (.int .u64 (x : Int)) := cell_row hbx 0; have k1 : w2.cell? ⟨pb, po, none⟩ = some (.int .i64 z) := (cell_row hpb2 po).trans HC.out; have f1 := free_row hpb2 po; have HCT := Lib.hid hct; have HPB := Lib.hid hpb2; clear hct hbx hpb2)))
  go_end0
  exact ⟨rfl, cr_back HB.out HCT.out HPB.out hpg hv (Nat.le_refl _)⟩
set_option maxHeartbeats 4000000 in
theorem cr_more (h : CrAt w g v l a bad) (hl : l.length ≤ 1000) (ha : a ≤ 1000) : Calls Try.prog 133 #[.pointer (some ⟨g, 0, none⟩)] w fun e w' => e = .returned (.bool (!bad && decide (a < l.length))) ∧ ∃ n, w' = w.drewN n := by
  have h0 := cell_row h.box 0
  have h1 : w.cell? ⟨g, 1, none⟩ = some (.int .i64 (a : Int)) := cell_row h.box 1
  have h2 : w.cell? ⟨g, 2, none⟩ = some (.bool bad) := cell_row h.box 2
  obtain ⟨sv, cv, rfl⟩ : ∃ s c, v = .slice s l.length c := by
    rcases h.byt with ⟨e0, A, c, e, _⟩ | ⟨b, o, c, e, _⟩
    · exact ⟨_, _, by rw [e, e0]; rfl⟩
    · exact ⟨_, _, e⟩
  obtain ⟨b1, hb1⟩ : ∃ b, decide (a < l.length) = b := ⟨_, rfl⟩
  rw [hb1]
  have HB1 := Lib.hid hb1
  have hlt : decide ((a : Int) < (l.length : Int)) = b1 := by rw [← hb1]; simp
  clear h hb1
  cases bad <;> cases b1
  all_goals
    go_enter Try.func133, Try.ntmps133
    go_upto_region 1 with fail
    go_quiet (fail)
    rename_i nq
    go_wp2
    go_ret
    first
      | exact ⟨rfl, nq, rfl⟩
      | exact ⟨by show Ending.returned (.bool (decide (a < l.length))) = _; rw [HB1.out]; rfl, nq, rfl⟩
end
end Go.Proofs.Ytlcbfpcabalgcaa
