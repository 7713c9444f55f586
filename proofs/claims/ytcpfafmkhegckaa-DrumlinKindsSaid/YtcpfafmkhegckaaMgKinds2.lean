/-
  Codec: the form that writes: wide, word, int, more.
-/
import Derived.Test.YtcpfafmkhegckaaMgKinds0
import Derived.Test.YtcpfafmkhegckaaMgKinds1
import Derived.Deep.QuietTactic
import Derived.BigQuiet
import Derived.WalkKit
import Derived.Deep.RegionHeld3
namespace Go.Proofs.Ytcpfafmkhegckaa
open Go.RowKit
attribute [local go_sem] maxI_two minI_two
set_option linter.unusedVariables false
set_option linter.unusedSimpArgs false
set_option linter.unnecessarySimpa false
/-- A number in k bytes, as the form writes it. -/
def fitB (k x : Nat) : Bool := putOk k 0 k x
def wB (k x : Nat) : List UInt8 := if fitB k x then le k x else List.replicate k 0
theorem wB_len (k x : Nat) : (wB k x).length = k := by unfold wB; split <;> simp
/-- The form that writes, in memory: what it has written, and whether something has no room. -/
def CwAt (w : World) (base g : Nat) (l : List UInt8) (bad : Bool) : Prop :=
  ∃ v, w.heap[g]? = some (.cells #[v, .bool bad] 198 (0, 0)) ∧ w.ownsRow base 5 1 v l.length (bvs l) ∧ base ≤ g ∧ ∀ k, v.ownBlock = some k → k ≠ g
/-- What a call of it leaves: new blocks, and those from base on. -/
def CwTo (w : World) (base g : Nat) (l : List UInt8) (bad : Bool) (e : Ending) (w' : World) : Prop := e = .returned (.tuple #[]) ∧ CwAt w' base g l bad ∧ Below base w w'
theorem wB_put (k x : Nat) (hk : 1 ≤ k) : (if putOk k 0 k x then written (bvs (List.replicate k 0)).toArray (0 + (0 : Int).toNat) (le (k : Int).toNat x) else (bvs (List.replicate k 0)).toArray) = (bvs (wB k x)).toArray := by
  unfold wB fitB
  split
  · unfold written splice
    simp
  · rfl
theorem below_setRow {w w' : World} {n g : Nat} (cs : Array Value) (h : Below n w w') (hg : n ≤ g) : Below n w (w'.setRow g cs) :=
  h.trans ⟨rfl, rfl, rfl, by simp, fun i hi => setRow_other _ _ _ _ (by omega)⟩
def PutTo (w1 : World) (gN k x : Nat) (e : Ending) (w' : World) : Prop := e = .returned (.int .i64 (if fitB k x then 0 else 1)) ∧ w' = w1.setRow gN (bvs (wB k x)).toArray
theorem cw_put {w1 : World} {gN k x : Nat} {t : TypeId} (hk : 1 ≤ k ∧ k ≤ 8) (hx : x < 2 ^ 64) (h : w1.heap[gN]? = some (.cells (bvs (List.replicate k 0)).toArray t (0, 0))) :
    Calls Try.prog 107 #[.slice (some ⟨gN, 0, none⟩) k k, .int .i64 0, .int .i64 (k : Int), .int .u64 (x : Int)] w1 (PutTo w1 gN k x) := by
  refine (put_row gN 0 k k _ t 0 k x w1 h (by simp) (by omega) hx).mono fun e w' ⟨h1, h2⟩ => ⟨h1, ?_⟩
  rw [h2, wB_put k x hk.1]
section
variable {w : World} {base g : Nat} {l : List UInt8} {bad : Bool}
set_option maxRecDepth 10000 in
set_option maxHeartbeats 4000000 in
theorem cw_wide (k x pb po : Nat) (h : CwAt w base g l bad) (hk : 1 ≤ k ∧ k ≤ 8) (hx : x < 2 ^ 64) (hc : w.cell? ⟨pb, po, none⟩ = some (.int .u64 (x : Int))) (hl : l.length ≤ 100000) (hbs : base ≤ w.heap.size) :
    Calls Try.prog 183 #[.pointer (some ⟨g, 0, none⟩), .int .i64 (k : Int), .pointer (some ⟨pb, po, none⟩)] w (CwTo w base g (l ++ wB k x) (bad || !fitB k x)) := by
  obtain ⟨v, hg, ho, hb, hne⟩ := h
  obtain ⟨sv, cv, rfl⟩ := own_slice1 ho
  have hgl : g < w.heap.size := (Array.getElem?_eq_some_iff.1 hg).1
  have hpl := World.block_lt_of_cell? w _ hc
  dsimp only at hpl
  have HG := Lib.hid hg
  have HO := Lib.hid ho
  have HC := Lib.hid hc
  have HNE := Lib.hid hne
  have hk0 : (0 : Int) ≤ (k : Int) := by omega
  have HWO : Hid (∀ u ∈ bvs (wB k x), u.oneCell' = true) := Lib.hid (bvs_oneCell _)
  have HWL := Lib.hid (wB_len k x)
  clear hg ho hc hne
  unfold CwTo
  cases hf : fitB k x with
  | true =>
    have HF := Lib.hid hf
    clear hf
    go_enter Try.func183, Try.ntmps183
    go_wp2_with (first
      | (refine wpList_make_rd _ rfl _ _ 118 rfl w.heap.size 5 (.int .u8 0) 1 1 Try.underlying118 infoU8 (k : Int) (k : Int) k rfl rfl rfl rfl (by omega) (by unfold maxLen; omega) (Nat.le_refl _) ?_; intro w1 how hb1; rw [made_bytes] at how; have hh1 := own_full how; have c1 : w1.cell? ⟨pb, po, none⟩ = some (.int .u64 (x : Int)) := (hb1.cell (p := ⟨pb, po, none⟩) hpl).trans HC.out; have HP := Lib.hid (cw_put hk hx hh1); unfold PutTo at HP; rw [HF.out] at HP; rw [if_pos rfl] at HP; have HH1 := Lib.hid hh1; have HB1 := Lib.hid hb1; clear how hb1 hh1)
      | (go_at_call 107; (with_reducible refine HP.out.mono ?_); rintro e w2 ⟨rfl, hw2⟩; have HW2 := Lib.hid hw2; have hh2 : w2.heap[w.heap.size]? = some (.cells (bvs (wB k x)).toArray 5 (0, 0)) := (by rw [HW2.out]; exact setRow_heap _ _ _ _ _ _ HH1.out); have hb2 : Below w.heap.size w w2 := (by rw [HW2.out]; exact below_setRow _ HB1.out (Nat.le_refl _)); have hg2 := old_heap HG.out hb2; have ho2 := own_below HO.out hb2; have HRD := Lib.hid (rd_bytes hh2 HWL.out k); have HO2 := Lib.hid ho2; have HG2 := Lib.hid hg2; have HB2 := Lib.hid hb2; have g0 : w2.cell? ⟨g, 0, none⟩ = some (.slice sv l.length cv) := cell_row hg2 0; have g1 : w2.cell? ⟨g, 1, none⟩ = some (.bool bad) := cell_row hg2 1; have f0 := free_row hg2 0; have hsz2 := hb2.size; clear hw2 hh2 hb2 hg2 ho2 c1)
      | (at_builtin; refine wpList_append_rd_at _ rfl _ _ 118 rfl base 5 (.int .u8 0) 1 1 Try.underlying118 infoU8 rfl (by decide) _ _ _ rfl HO2.out _ k (bvs (wB k x)) rfl HRD.out HWO.out ?c2 (by decide) ?c3 ?_; (case c2 => omega); (case c3 => omega); intro v3 w3 ho3 hb3 hg3 hat3; obtain ⟨s3, c3, rfl⟩ := own_slice1 ho3; have hh3 := (hg3.block g (Nat.lt_of_lt_of_le hgl hsz2) (fun e => HNE.out g e.symm rfl)).trans HG2.out; have q0 : w3.cell? ⟨g, 0, none⟩ = some (.slice sv l.length cv) := cell_row hh3 0; have e0 := free_row hh3 0; have HH3 := Lib.hid hh3; have HO3 := Lib.hid ho3; have HB3 := Lib.hid hb3; have HAT := Lib.hid hat3; clear hh3 ho3 hb3 hg3 hat3 g0 g1 f0))
    go_end0
    refine ⟨rfl, ⟨_, by have := head_set HH3.out 0 (.slice s3 (l.length + k) c3); simpa using this, ?_, hb, ?_⟩, ((HB2.out.mono hbs).trans HB3.out).setCell (p := ⟨g, 0, none⟩) hb _⟩
    · have hne3 : ∀ j, Value.ownBlock (.slice s3 (l.length + k) c3) = some j → j ≠ g := fun j hj => by
        rcases HAT.out with e | e
        · exact HNE.out j (by rw [← hj, e]; rfl)
        · rw [e] at hj; cases hj; omega
      have := own_move HO3.out (w' := w3.setCell ⟨g, 0, none⟩ (.slice s3 (l.length + k) c3)) (fun j hj => Below.heap_setCell _ _ _ _ (hne3 j hj))
      rw [List.length_append, HWL.out]
      simpa [bvs] using this
    · intro j hj
      rcases HAT.out with e | e
      · exact HNE.out j (by rw [← hj, e]; rfl)
      · rw [e] at hj; cases hj; omega
  | false =>
    have HF := Lib.hid hf
    clear hf
    go_enter Try.func183, Try.ntmps183
    go_wp2_with (first
      | (refine wpList_make_rd _ rfl _ _ 118 rfl w.heap.size 5 (.int .u8 0) 1 1 Try.underlying118 infoU8 (k : Int) (k : Int) k rfl rfl rfl rfl (by omega) (by unfold maxLen; omega) (Nat.le_refl _) ?_; intro w1 how hb1; rw [made_bytes] at how; have hh1 := own_full how; have c1 : w1.cell? ⟨pb, po, none⟩ = some (.int .u64 (x : Int)) := (hb1.cell (p := ⟨pb, po, none⟩) hpl).trans HC.out; have HP := Lib.hid (cw_put hk hx hh1); unfold PutTo at HP; rw [HF.out] at HP; rw [if_neg (by simp)] at HP; have HH1 := Lib.hid hh1; have HB1 := Lib.hid hb1; clear how hb1 hh1)
      | (go_at_call 107; (with_reducible refine HP.out.mono ?_); rintro e w2 ⟨rfl, hw2⟩; have HW2 := Lib.hid hw2; have hh2 : w2.heap[w.heap.size]? = some (.cells (bvs (wB k x)).toArray 5 (0, 0)) := (by rw [HW2.out]; exact setRow_heap _ _ _ _ _ _ HH1.out); have hb2 : Below w.heap.size w w2 := (by rw [HW2.out]; exact below_setRow _ HB1.out (Nat.le_refl _)); have hg2 := old_heap HG.out hb2; have ho2 := own_move (w' := w2.setCell ⟨g, 1, none⟩ (.bool true)) (own_below HO.out hb2) (fun j hj => Below.heap_setCell _ _ _ _ (HNE.out j hj)); have hh2' := (Below.heap_setCell w2 ⟨g, 1, none⟩ (.bool true) w.heap.size (by show w.heap.size ≠ g; omega)).trans hh2; have HRD := Lib.hid (rd_bytes hh2' HWL.out k); have HO2 := Lib.hid ho2; have HG2 : Hid ((w2.setCell ⟨g, 1, none⟩ (.bool true)).heap[g]? = some (.cells #[.slice sv l.length cv, .bool true] 198 (0, 0))) := Lib.hid (by have := head_set hg2 1 (.bool true); simpa using this); have HB2 := Lib.hid (hb2.mono hbs); have g0 : w2.cell? ⟨g, 0, none⟩ = some (.slice sv l.length cv) := cell_row hg2 0; have g1 : w2.cell? ⟨g, 1, none⟩ = some (.bool bad) := cell_row hg2 1; have f0 := free_row hg2 0; have f1 := free_row hg2 1; have hsz2 := hb2.size; have hsz2' : (w2.setCell ⟨g, 1, none⟩ (.bool true)).heap.size = w2.heap.size := (by simp [World.setCell]); clear hw2 hh2 hh2' hb2 hg2 ho2 c1)
      | (at_builtin; refine wpList_append_rd_at _ rfl _ _ 118 rfl base 5 (.int .u8 0) 1 1 Try.underlying118 infoU8 rfl (by decide) _ _ _ rfl HO2.out _ k (bvs (wB k x)) rfl HRD.out HWO.out ?c2 (by decide) ?c3 ?_; (case c2 => omega); (case c3 => omega); intro v3 w3 ho3 hb3 hg3 hat3; obtain ⟨s3, c3, rfl⟩ := own_slice1 ho3; have hh3 := (hg3.block g (by rw [hsz2']; exact Nat.lt_of_lt_of_le hgl hsz2) (fun e => HNE.out g e.symm rfl)).trans HG2.out; have q0 : w3.cell? ⟨g, 0, none⟩ = some (.slice sv l.length cv) := cell_row hh3 0; have e0 := free_row hh3 0; have HH3 := Lib.hid hh3; have HO3 := Lib.hid ho3; have HB3 := Lib.hid hb3; have HAT := Lib.hid hat3; clear hh3 ho3 hb3 hg3 hat3 g0 g1 f0 f1))
    go_end0
    refine ⟨rfl, ⟨_, by have := head_set HH3.out 0 (.slice s3 (l.length + k) c3); simpa using this, ?_, hb, ?_⟩, ((HB2.out.setCell (p := ⟨g, 1, none⟩) hb (.bool true)).trans HB3.out).setCell (p := ⟨g, 0, none⟩) hb _⟩
    · have hne3 : ∀ j, Value.ownBlock (.slice s3 (l.length + k) c3) = some j → j ≠ g := fun j hj => by
        rcases HAT.out with e | e
        · exact HNE.out j (by rw [← hj, e]; rfl)
        · rw [e] at hj; cases hj; rw [hsz2']; omega
      have := own_move HO3.out (w' := w3.setCell ⟨g, 0, none⟩ (.slice s3 (l.length + k) c3)) (fun j hj => Below.heap_setCell _ _ _ _ (hne3 j hj))
      rw [List.length_append, HWL.out]
      simpa [bvs] using this
    · intro j hj
      rcases HAT.out with e | e
      · exact HNE.out j (by rw [← hj, e]; rfl)
      · rw [e] at hj; cases hj; rw [hsz2']; omega
theorem CwAt.below {w' : World} (h : CwAt w base g l bad) (hb : Below w.heap.size w w') : CwAt w' base g l bad := by
  obtain ⟨v, h1, h2, h3, h4⟩ := h
  exact ⟨v, old_heap h1 hb, own_below h2 hb, h3, h4⟩
set_option maxRecDepth 10000 in
set_option maxHeartbeats 4000000 in
theorem cw_word (k x pb po : Nat) (h : CwAt w base g l bad) (hk : 1 ≤ k ∧ k ≤ 8) (hx : x < 2 ^ 32) (hc : w.cell? ⟨pb, po, none⟩ = some (.int .u32 (x : Int))) (hl : l.length ≤ 100000) (hbs : base ≤ w.heap.size) :
    Calls Try.prog 184 #[.pointer (some ⟨g, 0, none⟩), .int .i64 (k : Int), .pointer (some ⟨pb, po, none⟩)] w (CwTo w base g (l ++ wB k x) (bad || !fitB k x)) := by
  have hba := (Below.refl w.heap.size w).alloc (Nat.le_refl _) (.cells #[.int .u64 (x : Int)] 52)
  have hnew := cell_row (new_heap w (.cells #[.int .u64 (x : Int)] 52 (0, 0))) 0
  have HW := Lib.hid (cw_wide k x w.heap.size 0 (h.below hba) hk (by omega) hnew hl (Nat.le_trans hbs hba.size))
  unfold CwTo at HW
  have HB := Lib.hid (hba.mono hbs)
  clear h hba hnew
  go_enter Try.func184, Try.ntmps184
  go_wp2_with (first
    | (go_at_call 183; go_must (refine HW.out.mono ?_; rintro e w2 ⟨rfl, hc2, hb2⟩; have HC2 := Lib.hid hc2; have HB2 := Lib.hid hb2; clear hc2 hb2)))
  go_end0
  exact ⟨rfl, HC2.out, HB.out.trans HB2.out⟩
set_option maxRecDepth 10000 in
set_option maxHeartbeats 4000000 in
theorem cw_int (k : Nat) (n : Int) (pb po : Nat) (h : CwAt w base g l bad) (hk : 1 ≤ k ∧ k ≤ 8) (hn : -9223372036854775808 ≤ n ∧ n ≤ 9223372036854775807) (hc : w.cell? ⟨pb, po, none⟩ = some (.int .i64 n)) (hl : l.length ≤ 100000) (hbs : base ≤ w.heap.size) :
    Calls Try.prog 181 #[.pointer (some ⟨g, 0, none⟩), .int .i64 (k : Int), .pointer (some ⟨pb, po, none⟩)] w (CwTo w base g (l ++ wB k n.toNat) ((bad || decide (n < 0)) || !fitB k n.toNat)) := by
  obtain ⟨x, hxn⟩ : ∃ x : Nat, n.toNat = x := ⟨_, rfl⟩
  rw [hxn]
  have hba := (Below.refl w.heap.size w).alloc (Nat.le_refl _) (.cells #[.int .u64 (x : Int)] 52)
  have hnew := cell_row (new_heap w (.cells #[.int .u64 (x : Int)] 52 (0, 0))) 0
  obtain ⟨v, hg, ho, hb, hne⟩ := h
  have hpl := World.block_lt_of_cell? w _ hc
  have hgl : g < w.heap.size := (Array.getElem?_eq_some_iff.1 hg).1
  have hg1 := old_heap hg hba
  have hc1 := (hba.cell (p := ⟨pb, po, none⟩) hpl).trans hc
  have hc2 : (w.alloc (.cells #[.int .u64 (x : Int)] 52)).cell? ⟨pb, po, none⟩ = some (.int .i64 n) := hc1
  have hg0 : (w.alloc (.cells #[.int .u64 (x : Int)] 52)).cell? ⟨g, 1, none⟩ = some (.bool bad) := cell_row hg1 1
  have hf1 := free_row hg1 1
  obtain ⟨b2, hb2⟩ : ∃ b2, (bad || decide (n < 0)) = b2 := ⟨_, rfl⟩
  have hsz : (w.setCell ⟨g, 1, none⟩ (.bool b2)).heap.size = w.heap.size := by simp [World.setCell]
  have hcw0 : CwAt (w.setCell ⟨g, 1, none⟩ (.bool b2)) base g l b2 :=
    ⟨v, by have := head_set hg 1 (.bool b2); simpa using this, own_move ho (fun j hj => Below.heap_setCell _ _ _ _ (hne j hj)), hb, hne⟩
  have hba2 := (Below.refl (w.setCell ⟨g, 1, none⟩ (.bool b2)).heap.size (w.setCell ⟨g, 1, none⟩ (.bool b2))).alloc (Nat.le_refl _) (.cells #[.int .u64 (x : Int)] 52)
  have hcw := hcw0.below hba2
  have hbw := ((Below.refl base w).setCell (p := ⟨g, 1, none⟩) hb (.bool b2)).trans (hba2.mono (by omega))
  have hx64 : x < 2 ^ 64 := by omega
  have hcell := cell_row (new_heap (w.setCell ⟨g, 1, none⟩ (.bool b2)) (.cells #[.int .u64 (x : Int)] 52 (0, 0))) 0
  have HW := Lib.hid (cw_wide k x _ 0 hcw hk hx64 hcell hl (by rw [World.size_alloc]; omega))
  rw [hsz] at HW
  unfold CwTo at HW ⊢
  rw [hb2]
  have HBW := Lib.hid hbw
  have hmx : mxI n 0 = (x : Int) := by rw [← hxn]; unfold mxI; split <;> omega
  have HMX := Lib.hid hmx
  have hxb : x ≤ 9223372036854775807 := by omega
  have HB2 := Lib.hid hb2
  clear hxn hg ho hcw hcw0 hba2 hbw hcell hmx hb2 hc1 hg1 hnew hx64 hba hsz
  have hwr : IntKind.u64.wrap (mxI n 0) = (x : Int) := by rw [HMX.out]; unfold IntKind.wrap; simp [IntKind.signed, IntKind.bits]; omega
  by_cases hn0 : n < 0
  · have ht : b2 = true := by rw [← HB2.out]; simp [hn0]
    subst ht
    cases bad
    all_goals
      clear HB2
      go_enter Try.func181, Try.ntmps181
      go_wp2_with (first
        | (go_at_call 183; go_must (refine HW.out.mono ?_; rintro e w2 ⟨rfl, hc2, hb2⟩; have HC2 := Lib.hid hc2; have HB2 := Lib.hid hb2; clear hc2 hb2)))
      go_end0
      exact ⟨rfl, HC2.out, HBW.out.trans HB2.out⟩
  · have ht : b2 = bad := by rw [← HB2.out]; simp [hn0]
    subst ht
    cases b2
    all_goals
      clear HB2
      go_enter Try.func181, Try.ntmps181
      go_wp2_with (first
        | (go_at_call 183; go_must (refine HW.out.mono ?_; rintro e w2 ⟨rfl, hc2, hb2⟩; have HC2 := Lib.hid hc2; have HB2 := Lib.hid hb2; clear hc2 hb2)))
      go_end0
      exact ⟨rfl, HC2.out, HBW.out.trans HB2.out⟩
set_option maxHeartbeats 1000000 in
theorem cw_more (p : Addr) (w : World) : Calls Try.prog 182 #[.pointer (some p)] w fun e w' => e = .returned (.bool false) ∧ w = w' := by
  go_enter Try.func182, Try.ntmps182
  go_wp2
  go_ret
  exact ⟨rfl, rfl⟩
end
end Go.Proofs.Ytcpfafmkhegckaa
/-
  Codec: the form that reads: wide, word, int, more.
-/
namespace Go.Proofs.Ytcpfafmkhegckaa
open Go.RowKit
set_option linter.unusedVariables false
set_option linter.unusedSimpArgs false
set_option linter.unnecessarySimpa false
/-- A slice's block is none of F. -/
def Apart (F : Nat → Prop) (v : Value) (l : List UInt8) : Prop := l ≠ [] → ∀ b o n c, v = .slice (some ⟨b, o, none⟩) n c → ¬ F b
theorem byt_keep {F : Nat → Prop} {w w' : World} {v : Value} {l : List UInt8} (h : Byt w v l) (hk : Keep F w w') (hv : Apart F v l) : Byt w' v l := by
  rcases h with h | ⟨b, o, c, h1, h2, h3, h4⟩
  · exact .inl h
  · exact .inr ⟨b, o, c, h1, h2, h3, fun i hi => hk.cell (h4 i hi) (hv (fun e => by rw [e] at hi; simp at hi) b o _ c h1)⟩
structure CrAt (w : World) (g : Nat) (v : Value) (l : List UInt8) (a : Nat) (bad : Bool) : Prop where
  box : w.heap[g]? = some (.cells #[v, .int .i64 (a : Int), .bool bad] 242 (0, 0))
  byt : Byt w v l
  apart : Apart (· = g) v l
def rN (l : List UInt8) (a k : Nat) : Nat := getN l a k
def rOk (l : List UInt8) (a k : Nat) : Bool := fitsB l.length a k
theorem rN_lt (l : List UInt8) (a k : Nat) : rN l a k < 256 ^ k := by
  unfold rN getN
  split
  · exact part_lt _ _ _
  · exact Nat.pow_pos (by decide)
theorem CrAt.below {w w' : World} {g a : Nat} {v : Value} {l : List UInt8} {bad : Bool} (h : CrAt w g v l a bad) (hb : Below w.heap.size w w') : CrAt w' g v l a bad := ⟨old_heap h.box hb, h.byt.below hb, h.apart⟩
/-- What a reading of a number leaves: the form, a cell, nothing else of what was there. -/
structure CrTo (w : World) (g : Nat) (v : Value) (l : List UInt8) (a : Nat) (bad : Bool) (pb po : Nat) (cs : Array Value) (T : TypeId) (u : Value) (w' : World) : Prop where
  form : CrAt w' g v l a bad
  cell : w'.heap[pb]? = some (.cells (cs.setIfInBounds po u) T (0, 0))
  keep : Keep (fun b => b = g ∨ b = pb) w w'
section
variable {w : World} {g a : Nat} {v : Value} {l : List UInt8} {bad : Bool}
theorem cr_end {w2 : World} {k pb po : Nat} {cs : Array Value} {T : TypeId} {u : Value} {b : Bool} (hx : w2.heap[g]? = some (.cells #[v, .int .i64 (a : Int), .bool bad] 242 (0, 0))) (hy : w2.heap[pb]? = some (.cells cs T (0, 0))) (hbt : Byt w2 v l) (hap : Apart (· = g) v l) (hk : Keep (fun b => b = g ∨ b = pb) w w2) (hpg : pb ≠ g) (hv : Apart (· = pb) v l) :
    CrTo w g v l (a + k) b pb po cs T u (((w2.setCell ⟨pb, po, none⟩ u).setCell ⟨g, 2, none⟩ (.bool b)).setCell ⟨g, 1, none⟩ (.int .i64 ((a : Int) + (k : Int)))) := by
  have hx1 := (Below.heap_setCell w2 ⟨pb, po, none⟩ u g (fun e => hpg e.symm)).trans hx
  have hx3 := head_set (head_set hx1 2 (.bool b)) 1 (.int .i64 ((a : Int) + (k : Int)))
  have hk3 : Keep (fun b => b = g ∨ b = pb) w2 (((w2.setCell ⟨pb, po, none⟩ u).setCell ⟨g, 2, none⟩ (.bool b)).setCell ⟨g, 1, none⟩ (.int .i64 ((a : Int) + (k : Int)))) :=
    (((Keep.refl _ w2).setCell pb po u (.inr rfl)).setCell g 2 _ (.inl rfl)).setCell g 1 _ (.inl rfl)
  refine ⟨⟨by simpa using hx3, byt_keep hbt hk3 (fun hne b o n c e f => by rcases f with f | f; exact hap hne b o n c e f; exact hv hne b o n c e f), hap⟩, ?_, hk.trans hk3⟩
  exact (Below.heap_setCell _ ⟨g, 1, none⟩ _ pb hpg).trans ((Below.heap_setCell _ ⟨g, 2, none⟩ _ pb hpg).trans (head_set hy po u))
set_option maxRecDepth 10000 in
set_option maxHeartbeats 4000000 in
theorem cr_wide (k pb po : Nat) (cs : Array Value) (T : TypeId) (z : Nat) (h : CrAt w g v l a bad) (hk : 1 ≤ k ∧ k ≤ 8) (ha : a ≤ 1000) (hl : l.length ≤ 1000) (hb : w.heap[pb]? = some (.cells cs T (0, 0))) (hc : cs[po]? = some (.int .u64 (z : Int))) (hpg : pb ≠ g) (hv : Apart (· = pb) v l) :
    Calls Try.prog 187 #[.pointer (some ⟨g, 0, none⟩), .int .i64 (k : Int), .pointer (some ⟨pb, po, none⟩)] w fun e w' => e = .returned (.tuple #[]) ∧ CrTo w g v l (a + k) (bad || !rOk l a k) pb po cs T (.int .u64 (rN l a k : Int)) w' := by
  have HC := Lib.hid h
  have h0 := cell_row h.box 0
  have h1 := cell_row h.box 1
  have h2 := cell_row h.box 2
  have hG := fun n => Lib.hid (get_any v l (a : Int) (k : Int) (w.drewN n) (by omega) (byt_keep (F := fun _ => False) h.byt ((Keep.refl _ _).drewN n) (fun _ _ _ _ _ _ e => e)))
  obtain ⟨sv, nv, cv, rfl⟩ : ∃ s n c, v = .slice s n c := by
    rcases h.byt with ⟨_, A, c, e, _⟩ | ⟨b, o, c, e, _⟩
    · exact ⟨_, _, _, e⟩
    · exact ⟨_, _, _, e⟩
  have hgE : getE l.length (a : Int) (k : Int) = (if rOk l a k then 0 else 1) := rfl
  have hgN : getN l (a : Int) (k : Int) = rN l a k := rfl
  rw [hgE, hgN] at hG
  have HB := Lib.hid hb
  have HCC := Lib.hid hc
  obtain ⟨b1, hb1⟩ : ∃ b1, rOk l a k = b1 := ⟨_, rfl⟩
  rw [hb1] at hG ⊢
  obtain ⟨b2, hb2⟩ : ∃ b2, (bad || !b1) = b2 := ⟨_, rfl⟩
  have HB2 := Lib.hid hb2
  rw [hb2]
  clear h hgE hgN hb hc hb1 hb2
  cases b1 <;> cases bad
  all_goals
    go_enter Try.func187, Try.ntmps187
    go_upto_region 0 with fail
    go_quiet ((go_at_call 60; exact Calls.quiet_of_same ((hG _).out.mono fun _ _ h => ⟨h.1, h.2.symm⟩)))
    rename_i nq
    have hk0 := (Keep.refl (fun b => b = g ∨ b = pb) w).drewN nq
    have e1 : (w.drewN nq).cell? ⟨g, 1, none⟩ = some (.int .i64 (a : Int)) := h1
    have hx : (w.drewN nq).heap[g]? = w.heap[g]? := rfl
    have hy : (w.drewN nq).heap[pb]? = w.heap[pb]? := rfl
    rw [HC.out.box] at hx
    rw [HB.out] at hy
    have hbt := byt_keep (F := fun _ => False) HC.out.byt ((Keep.refl _ _).drewN nq) (fun _ _ _ _ _ _ e => e)
    revert hk0 hx hy hbt
    generalize w.drewN nq = w2
    intro hk0 hx hy hbt
    clear hG h0 h1 h2 e1
    have h1 : w2.cell? ⟨g, 1, none⟩ = some (.int .i64 (a : Int)) := cell_row hx 1
    have h2 : w2.cell? ⟨g, 2, none⟩ = some (.bool _) := cell_row hx 2
    have hpc : w2.cell? ⟨pb, po, none⟩ = some (.int .u64 (z : Int)) := (cell_row hy po).trans HCC.out
    have f0 := free_row hy po
    have f1 := free_row hx 1
    have f2 := free_row hx 2
    have HX := Lib.hid hx
    have HY := Lib.hid hy
    have HBT := Lib.hid hbt
    have HK := Lib.hid hk0
    have hgp : g ≠ pb := fun e => hpg e.symm
    clear hx hy hbt hk0
    go_wp2
    go_end0
    have hb := HB2.out
    subst hb
    exact ⟨rfl, cr_end HX.out HY.out HBT.out HC.out.apart HK.out hpg hv⟩
theorem byt_apart {w : World} {v : Value} {l : List UInt8} (h : Byt w v l) : Apart (· = w.heap.size) v l := fun hne b o n c e f => by
  rcases h with ⟨h, _⟩ | ⟨b', o', c', h1, h2, h3, h4⟩
  · exact hne h
  · rw [e] at h1
    cases h1
    have := h4.lt (List.length_pos_iff.2 hne)
    dsimp only at f
    omega
theorem cr_back {w1 w2 : World} {k b6 pb po : Nat} {bad2 : Bool} {cs cs6 : Array Value} {T T6 : TypeId} {u u6 : Value} (hba : Below w.heap.size w w1) (hc : CrTo w1 g v l (a + k) bad2 b6 0 cs6 T6 u6 w2) (hpb : w2.heap[pb]? = some (.cells cs T (0, 0))) (hpg : pb ≠ g) (hv : Apart (· = pb) v l) (hb6 : w.heap.size ≤ b6) :
    CrTo w g v l (a + k) bad2 pb po cs T u (w2.setCell ⟨pb, po, none⟩ u) := by
  have hk1 : Keep (· = pb) w2 (w2.setCell ⟨pb, po, none⟩ u) := (Keep.refl (fun b => b = pb) w2).setCell pb po u rfl
  refine ⟨⟨(Below.heap_setCell w2 ⟨pb, po, none⟩ u g (fun e => hpg e.symm)).trans hc.form.box, byt_keep hc.form.byt hk1 hv, hc.form.apart⟩, head_set hpb po u, ?_⟩
  have h1 : Keep (fun b => b = g ∨ b = pb) w w2 := (Keep.of_below hba).trans' hc.keep (fun i hi hf => by rcases hf with e | e; exact .inl e; omega)
  exact h1.trans (Keep.mono hk1 (fun b e => .inr e))
set_option maxRecDepth 10000 in
set_option maxHeartbeats 4000000 in
theorem cr_word (k pb po : Nat) (cs : Array Value) (T : TypeId) (z : Int) (h : CrAt w g v l a bad) (hk : 1 ≤ k ∧ k ≤ 4) (ha : a ≤ 1000) (hl : l.length ≤ 1000) (hb : w.heap[pb]? = some (.cells cs T (0, 0))) (hc : cs[po]? = some (.int .u32 z)) (hpg : pb ≠ g) (hv : Apart (· = pb) v l) :
    Calls Try.prog 188 #[.pointer (some ⟨g, 0, none⟩), .int .i64 (k : Int), .pointer (some ⟨pb, po, none⟩)] w fun e w' => e = .returned (.tuple #[]) ∧ CrTo w g v l (a + k) (bad || !rOk l a k) pb po cs T (.int .u32 (rN l a k : Int)) w' := by
  have hgl : g < w.heap.size := (Array.getElem?_eq_some_iff.1 h.box).1
  have hpl : pb < w.heap.size := (Array.getElem?_eq_some_iff.1 hb).1
  have hba := (Below.refl w.heap.size w).alloc (Nat.le_refl _) (.cells #[.int .u64 0] 52)
  have hnew := new_heap w (.cells #[.int .u64 0] 52 (0, 0))
  have hvn : Apart (· = w.heap.size) v l := byt_apart h.byt
  have HW := Lib.hid (cr_wide k w.heap.size 0 #[.int .u64 0] 52 0 (h.below hba) ⟨hk.1, by omega⟩ ha hl hnew rfl (by omega) hvn)
  have HB := Lib.hid hba
  have HP := Lib.hid (old_heap hb hba)
  have HC := Lib.hid hc
  have hx := rN_lt l a k
  have hxl : rN l a k < 4294967296 := Nat.lt_of_lt_of_le hx (Nat.pow_le_pow_right (n := 256) (by decide) hk.2)
  obtain ⟨x, hxe⟩ : ∃ x, rN l a k = x := ⟨_, rfl⟩
  obtain ⟨b2, hb2⟩ : ∃ b2, (bad || !rOk l a k) = b2 := ⟨_, rfl⟩
  rw [hxe, hb2] at HW
  rw [hxe, hb2]
  rw [hxe] at hxl
  have hcv : IntKind.u32.wrap (x : Int) = (x : Int) := by unfold IntKind.wrap; simp [IntKind.signed, IntKind.bits]; omega
  clear hx hxe hb2 h hba hnew hb hc
  go_enter Try.func188, Try.ntmps188
  go_wp2_with (first
    | (go_at_call 187; go_must (refine HW.out.mono ?_; rintro e w2 ⟨rfl, hct⟩; have hbx := hct.cell; have hpb2 := hct.keep.heap HP.out (by omega); have k0 : w2.cell? ⟨w.heap.size, 0, none⟩ = some (.int .u64 (x : Int)) := cell_row hbx 0; have k1 : w2.cell? ⟨pb, po, none⟩ = some (.int .u32 z) := (cell_row hpb2 po).trans HC.out; have f1 := free_row hpb2 po; have HCT := Lib.hid hct; have HPB := Lib.hid hpb2; clear hct hbx hpb2)))
  go_end0
  exact ⟨rfl, cr_back HB.out HCT.out HPB.out hpg hv (Nat.le_refl _)⟩
set_option maxRecDepth 10000 in
set_option maxHeartbeats 4000000 in
theorem cr_int (k pb po : Nat) (cs : Array Value) (T : TypeId) (z : Int) (h : CrAt w g v l a bad) (hk : 1 ≤ k ∧ k ≤ 4) (ha : a ≤ 1000) (hl : l.length ≤ 1000) (hb : w.heap[pb]? = some (.cells cs T (0, 0))) (hc : cs[po]? = some (.int .i64 z)) (hpg : pb ≠ g) (hv : Apart (· = pb) v l) :
    Calls Try.prog 185 #[.pointer (some ⟨g, 0, none⟩), .int .i64 (k : Int), .pointer (some ⟨pb, po, none⟩)] w fun e w' => e = .returned (.tuple #[]) ∧ CrTo w g v l (a + k) (bad || !rOk l a k) pb po cs T (.int .i64 (rN l a k : Int)) w' := by
  have hgl : g < w.heap.size := (Array.getElem?_eq_some_iff.1 h.box).1
  have hpl : pb < w.heap.size := (Array.getElem?_eq_some_iff.1 hb).1
  have hba := (Below.refl w.heap.size w).alloc (Nat.le_refl _) (.cells #[.int .u64 0] 52)
  have hnew := new_heap w (.cells #[.int .u64 0] 52 (0, 0))
  have hvn : Apart (· = w.heap.size) v l := byt_apart h.byt
  have HW := Lib.hid (cr_wide k w.heap.size 0 #[.int .u64 0] 52 0 (h.below hba) ⟨hk.1, by omega⟩ ha hl hnew rfl (by omega) hvn)
  have HB := Lib.hid hba
  have HP := Lib.hid (old_heap hb hba)
  have HC := Lib.hid hc
  have hx := rN_lt l a k
  have hxl : rN l a k < 4294967296 := Nat.lt_of_lt_of_le hx (Nat.pow_le_pow_right (n := 256) (by decide) hk.2)
  obtain ⟨x, hxe⟩ : ∃ x, rN l a k = x := ⟨_, rfl⟩
  obtain ⟨b2, hb2⟩ : ∃ b2, (bad || !rOk l a k) = b2 := ⟨_, rfl⟩
  rw [hxe, hb2] at HW
  rw [hxe, hb2]
  rw [hxe] at hxl
  have hcv : IntKind.i64.wrap (x : Int) = (x : Int) := IntWalk.i64_in _ (by omega)
  clear hx hxe hb2 h hba hnew hb hc
  go_enter Try.func185, Try.ntmps185
  go_wp2_with (first
    | (go_at_call 187; go_must (refine HW.out.mono ?_; rintro e w2 ⟨rfl, hct⟩; have hbx := hct.cell; have hpb2 := hct.keep.heap HP.out (by omega); have k0 : w2.cell? ⟨w.heap.size, 0, none⟩ = some (.int .u64 (x : Int)) := cell_row hbx 0; have k1 : w2.cell? ⟨pb, po, none⟩ = some (.int .i64 z) := (cell_row hpb2 po).trans HC.out; have f1 := free_row hpb2 po; have HCT := Lib.hid hct; have HPB := Lib.hid hpb2; clear hct hbx hpb2)))
  go_end0
  exact ⟨rfl, cr_back HB.out HCT.out HPB.out hpg hv (Nat.le_refl _)⟩
set_option maxHeartbeats 4000000 in
theorem cr_more (h : CrAt w g v l a bad) (hl : l.length ≤ 1000) (ha : a ≤ 1000) : Calls Try.prog 186 #[.pointer (some ⟨g, 0, none⟩)] w fun e w' => e = .returned (.bool (!bad && decide (a < l.length))) ∧ ∃ n, w' = w.drewN n := by
  have h0 := cell_row h.box 0
  have h1 : w.cell? ⟨g, 1, none⟩ = some (.int .i64 (a : Int)) := cell_row h.box 1
  have h2 : w.cell? ⟨g, 2, none⟩ = some (.bool bad) := cell_row h.box 2
  obtain ⟨sv, cv, rfl⟩ : ∃ s c, v = .slice s l.length c := by
    rcases h.byt with ⟨e0, A, c, e, _⟩ | ⟨b, o, c, e, _⟩
    · exact ⟨_, _, by rw [e, e0]; rfl⟩
    · exact ⟨_, _, e⟩
  obtain ⟨b1, hb1⟩ : ∃ b, decide (a < l.length) = b := ⟨_, rfl⟩
  rw [hb1]
  have HB1 := Lib.hid hb1
  have hlt : decide ((a : Int) < (l.length : Int)) = b1 := by rw [← hb1]; simp
  clear h hb1
  cases bad <;> cases b1
  all_goals
    go_enter Try.func186, Try.ntmps186
    go_upto_region 1 with fail
    go_quiet (fail)
    rename_i nq
    go_wp2
    go_ret
    first
      | exact ⟨rfl, nq, rfl⟩
      | exact ⟨by show Ending.returned (.bool (decide (a < l.length))) = _; rw [HB1.out]; rfl, nq, rfl⟩
end
end Go.Proofs.Ytcpfafmkhegckaa
/-
  A region that draws its order, some of whose operations are passed over because their guard says no: they are taken first, all at once.
-/
namespace Go.Proofs.Ytcpfafmkhegckaa
open Go.RowKit
set_option linter.unusedVariables false
section
variable {P : Program} {ops : Array Oper} {Q : Exit → Act → World → Prop} {md : Region.Mode} {S : World → Prop}
def knownOf (tmps : Array Value) (d : Nat) : Option Bool :=
  match tmps[d]? with
  | some (.bool b) => some b
  | _ => none
def KnownAll (a : Act) : List (Nat × Option Bool) → Prop
  | [] => True
  | x :: r => knownOf a.tmps x.1 = x.2 ∧ KnownAll a r
def lookIn : List (Nat × Option Bool) → Nat → Option (Option Bool)
  | [], _ => none
  | x :: r, d => if x.1 = d then some x.2 else lookIn r d
theorem KnownAll.look {a : Act} : ∀ {kn : List (Nat × Option Bool)}, KnownAll a kn → ∀ d b, lookIn kn d = some b → knownOf a.tmps d = b
  | [], _, d, b, h => by cases h
  | x :: r, h, d, b, hl => by
    unfold lookIn at hl
    split at hl
    · rename_i e; subst e; cases hl; exact h.1
    · exact KnownAll.look h.2 d b hl
/-- The run over those that are passed over: what has come up behind it. -/
def offRun (md : Region.Mode) (ops : Array Oper) : List Nat → List (Option Nat) → List (Nat × Option Bool) → Array Bool → Option (Array Bool)
  | [], [], _, l => some l
  | i :: r, d :: ds, kn, l =>
    match ops[i]? with
    | none => none
    | some o =>
      match o.guard with
      | none => none
      | some (j, want) =>
        match ((ops[j]?).bind (·.dst)).bind (lookIn kn) with
        | none => none
        | some ob =>
          if ob != some want && o.dst == d && Region.free md ops l i && (Region.ready md ops l).contains i then
            offRun md ops r ds (match d with | some d => (d, none) :: kn | none => kn) (l.setIfInBounds i true)
          else none
  | _, _, _, _ => none
def putOff : List (Option Nat) → Act → Act
  | [], a => a
  | d :: ds, a => putOff ds (a.put d undef)
theorem knownOf_put (a : Act) (d : Nat) : knownOf (a.put (some d) undef).tmps d = none := by
  unfold knownOf Act.put
  simp only [Array.getElem?_setIfInBounds]
  by_cases h : d < a.tmps.size
  · simp [h, undef]
  · simp [h]
theorem knownOf_put_ne (a : Act) (d d' : Nat) (h : d ≠ d') : knownOf (a.put (some d) undef).tmps d' = knownOf a.tmps d' := by
  unfold knownOf Act.put
  simp only [Array.getElem?_setIfInBounds]
  rw [if_neg h]
theorem KnownAll.of_look {a : Act} {kn : List (Nat × Option Bool)} (h : ∀ d b, lookIn kn d = some b → knownOf a.tmps d = b) : (∀ d b, lookIn kn d = some b → knownOf a.tmps d = b) := h
theorem wpAnyH_off (hs : Region.noSelect ops = true) (hQ : ∀ (c : _) (a : Act) (d : Option Tmp) (v : Value) (w : World), Q (.panic c) (a.put d v) w → Q (.panic c) a w) {w : World} (hS : S w) :
    ∀ (is : List Nat) (ds : List (Option Nat)) (kn : List (Nat × Option Bool)) (l l' : Array Bool) (a : Act) (fuel : Nat), offRun md ops is ds kn l = some l' → (∀ d b, lookIn kn d = some b → knownOf a.tmps d = b) →
      wpAnyH P md ops Q S fuel l' (putOff ds a) w → wpAnyH P md ops Q S (fuel + is.length) l a w
  | [], ds, kn, l, l', a, fuel, hr, hk, h => by
    cases ds with
    | nil => simp only [offRun, Option.some.injEq] at hr; subst hr; exact h
    | cons d ds => simp [offRun] at hr
  | i :: r, ds, kn, l, l', a, fuel, hr, hk, h => by
    cases ds with
    | nil => simp [offRun] at hr
    | cons d ds =>
      unfold offRun at hr
      split at hr
      · cases hr
      · rename_i o ho
        split at hr
        · cases hr
        · rename_i j want hg
          split at hr
          · cases hr
          · rename_i ob hob
            split at hr
            · rename_i hc
              simp only [Bool.and_eq_true, bne_iff_ne, ne_eq, beq_iff_eq] at hc
              obtain ⟨⟨⟨hne, hd⟩, hf⟩, hrd⟩ := hc
              have hw : Region.wanted o (yielded ops a.tmps) = false := by
                unfold Region.wanted
                rw [hg]
                simp only []
                have hy : yielded ops a.tmps j = ob := by
                  unfold yielded
                  cases hjd : (ops[j]?).bind (·.dst) with
                  | none => rw [hjd] at hob; cases hob
                  | some dj =>
                    rw [hjd] at hob
                    have := hk dj ob hob
                    unfold knownOf at this
                    simp only [Option.bind_some]
                    rw [← this]
                    cases hv : a.tmps[dj]? with
                    | none => rfl
                    | some v => cases v <;> rfl
                rw [hy]
                simp only [beq_eq_false_iff_ne, ne_eq]
                exact hne
              have hk' : ∀ d' b, lookIn (match d with | some d => (d, none) :: kn | none => kn) d' = some b → knownOf (a.put d undef).tmps d' = b := by
                intro d' b hl
                cases d with
                | none => exact hk d' b hl
                | some d =>
                  simp only [lookIn] at hl
                  split at hl
                  · rename_i e; subst e; cases hl; exact knownOf_put a d
                  · rename_i e; rw [knownOf_put_ne a d d' e]; exact hk d' b hl
              have ih := wpAnyH_off hs hQ hS r ds _ _ l' (a.put d undef) fuel hr hk' h
              subst hd
              exact wpAnyH_take (i := i) (oi := o) (v := undef) ho hs hf hrd (fun c a w => hQ c a _ _ w) (Or.inr ⟨hw, rfl⟩) hS ih
            · cases hr
theorem off_ (hs : Region.noSelect ops = true) (hQ : ∀ (c : _) (a : Act) (d : Option Tmp) (v : Value) (w : World), Q (.panic c) (a.put d v) w → Q (.panic c) a w) {w : World} (hS : S w)
    (is : List Nat) (ds : List (Option Nat)) (kn : List (Nat × Option Bool)) {l : Array Bool} (l' : Array Bool) {a : Act} (fuel : Nat) {n : Nat} (hn : fuel + is.length = n) (hr : offRun md ops is ds kn l = some l') (hk : KnownAll a kn)
    {a' : Act} (ha : putOff ds a = a') (h : wpAnyH P md ops Q S fuel l' a' w) : wpAnyH P md ops Q S n l a w := by
  subst hn; subst ha
  exact wpAnyH_off hs hQ hS is ds kn l l' a fuel hr hk.look h
/-- One that may be taken first; what it writes, and what has come up behind it, written out. -/
theorem take1_ {i : Nat} (N : Option Tmp) {oi : Oper} {v : Value} {fuel : Nat} {l : Array Bool} (l' : Array Bool) {a : Act} {w : World} (hi : ops[i]? = some oi) (hN : oi.dst = N)
    (hc : (Region.noSelect ops && Region.free md ops l i && (Region.ready md ops l).contains i && (l.setIfInBounds i true == l')) = true)
    (hQ : ∀ c a w, Q (.panic c) (a.put N v) w → Q (.panic c) a w) (hy : YieldsIf P ops S oi v a) (hS : S w) {a' : Act} (ha : a.put N v = a')
    (h : wpAnyH P md ops Q S fuel l' a' w) : wpAnyH P md ops Q S (fuel + 1) l a w := by
  simp only [Bool.and_eq_true, beq_iff_eq] at hc
  obtain ⟨⟨⟨h1, h2⟩, h3⟩, h4⟩ := hc
  subst h4; subst ha; subst hN
  exact wpAnyH_take hi h1 h2 h3 hQ hy hS h
/-- The only one that may come up, carried out. -/
theorem loud1_ {i : Nat} (N : Option Tmp) {oi : Oper} {fuel : Nat} {l : Array Bool} (l' : Array Bool) {a : Act} {w : World} (hi : ops[i]? = some oi) (hN : oi.dst = N)
    (hc : ((Region.ready md ops l == [i]) && (l.setIfInBounds i true == l')) = true)
    (h : ∀ K' : Act → World → Prop, Shut (∀ a w, S w → (S w → wpAnyH P md ops Q S fuel l' a w) → K' a w) → if Region.wanted oi (yielded ops a.tmps) = true then Oper.wp P oi a w K' Q else K' (a.put N undef) w) :
    wpAnyH P md ops Q S (fuel + 1) l a w := by
  simp only [Bool.and_eq_true, beq_iff_eq] at hc
  obtain ⟨h1, h2⟩ := hc
  subst h2; subst hN
  exact wpAnyH_ready h1 (by simp) (AllReadyH.cons hi h AllReadyH.nil)
end
end Go.Proofs.Ytcpfafmkhegckaa
/-
  Codec: the passes, when they write.
-/
namespace Go.Proofs.Ytcpfafmkhegckaa
open Go.RowKit
set_option linter.unusedVariables false
set_option linter.unusedSimpArgs false
set_option linter.unnecessarySimpa false
/-- Numbers and their widths: the bytes, and whether one has no room. -/
def fB : List (Nat × Int) → List UInt8
  | [] => []
  | x :: r => wB x.1 x.2.toNat ++ fB r
def fBad : List (Nat × Int) → Bool
  | [] => false
  | x :: r => (decide (x.2 < 0) || !fitB x.1 x.2.toNat) || fBad r
def wV (g : Nat) : Value := .iface 196 (.pointer (some ⟨g, 0, none⟩))
theorem nat_neg (n : Nat) : decide ((n : Int) < 0) = false := by simp
theorem na_w (a : Addr) (W : World) (s : String) (hs : s = "drumlin/codec.int" ∨ s = "drumlin/codec.word" ∨ s = "drumlin/codec.wide" ∨ s = "drumlin/codec.more") : (nilAhead 373 196 (.pointer (some a)) s).run Try.prog W = .ok (some false) W := by
  rcases hs with rfl | rfl | rfl | rfl <;> kernel_rfl
theorem mw_int (a : Addr) (W : World) : (method 373 196 (.pointer (some a)) "drumlin/codec.int").run Try.prog W = .ok (181, .pointer (some a)) W := by kernel_rfl
theorem mw_word (a : Addr) (W : World) : (method 373 196 (.pointer (some a)) "drumlin/codec.word").run Try.prog W = .ok (184, .pointer (some a)) W := by kernel_rfl
theorem mw_wide (a : Addr) (W : World) : (method 373 196 (.pointer (some a)) "drumlin/codec.wide").run Try.prog W = .ok (183, .pointer (some a)) W := by kernel_rfl
theorem mw_more (a : Addr) (W : World) : (method 373 196 (.pointer (some a)) "drumlin/codec.more").run Try.prog W = .ok (182, .pointer (some a)) W := by kernel_rfl
end Go.Proofs.Ytcpfafmkhegckaa
