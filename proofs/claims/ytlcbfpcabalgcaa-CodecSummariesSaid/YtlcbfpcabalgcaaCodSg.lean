/-
  Codec: the form that writes: what a call keeps. Printed by wip/tools/mkcwk.py.
-/
import Derived.Test.YtlcbfpcabalgcaaCodA
namespace Go.Proofs.Ytlcbfpcabalgcaa
open Go.RowKit
attribute [local go_sem] maxI_two minI_two
set_option linter.unusedVariables false
set_option linter.unusedSimpArgs false
set_option linter.unnecessarySimpa false
/-- A block that is neither the writer's nor its slice's is kept. -/
def WKeep (w : World) (g : Nat) (w' : World) : Prop := ∀ q sv, q < w.heap.size → q ≠ g → w.cell? ⟨g, 0, none⟩ = some sv → sv.ownBlock ≠ some q → w'.heap[q]? = w.heap[q]?
def CwTk (w : World) (base g : Nat) (l : List UInt8) (bad : Bool) (e : Ending) (w' : World) : Prop := (e = .returned (.tuple #[]) ∧ CwAt w' base g l bad ∧ Below base w w') ∧ WKeep w g w'
section
variable {w : World} {base g : Nat} {l : List UInt8} {bad : Bool}
set_option maxRecDepth 10000 in
set_option maxHeartbeats 4000000 in
theorem ck_wide (k x pb po : Nat) (h : CwAt w base g l bad) (hk : 1 ≤ k ∧ k ≤ 8) (hx : x < 2 ^ 64) (hc : w.cell? ⟨pb, po, none⟩ = some (.int .u64 (x : Int))) (hl : l.length ≤ 100000) (hbs : base ≤ w.heap.size) :
    Calls Try.prog 130 #[.pointer (some ⟨g, 0, none⟩), .int .i64 (k : Int), .pointer (some ⟨pb, po, none⟩)] w (CwTk w base g (l ++ wB k x) (bad || !fitB k x)) := by
  obtain ⟨v, hg, ho, hb, hne⟩ := h
  obtain ⟨sv, cv, rfl⟩ := own_slice1 ho
  have hgl : g < w.heap.size := (Array.getElem?_eq_some_iff.1 hg).1
  have hpl := World.block_lt_of_cell? w _ hc
  dsimp only at hpl
  have HG := Lib.hid hg
  have HO := Lib.hid ho
  have HC := Lib.hid hc
  have HNE := Lib.hid hne
  have hk0 : (0 : Int) ≤ (k : Int) := by omega
  have HWO : Hid (∀ u ∈ bvs (wB k x), u.oneCell' = true) := Lib.hid (bvs_oneCell _)
  have HWL := Lib.hid (wB_len k x)
  clear hg ho hc hne
  unfold CwTk
  cases hf : fitB k x with
  | true =>
    have HF := Lib.hid hf
    clear hf
    go_enter Try.func130, Try.ntmps130
    go_wp2_with (first
      | (refine wpList_make_rd _ rfl _ _ 26 rfl w.heap.size 5 (.int .u8 0) 1 1 Try.underlying26 infoU8 (k : Int) (k : Int) k rfl rfl rfl rfl (by omega) (by unfold maxLen; omega) (Nat.le_refl _) ?_; intro w1 how hb1; rw [made_bytes] at how; have hh1 := own_full how; have c1 : w1.cell? ⟨pb, po, none⟩ = some (.int .u64 (x : Int)) := (hb1.cell (p := ⟨pb, po, none⟩) hpl).trans HC.out; have HP := Lib.hid (cw_put hk hx hh1); unfold PutTo at HP; rw [HF.out] at HP; rw [if_pos rfl] at HP; have HH1 := Lib.hid hh1; have HB1 := Lib.hid hb1; clear how hb1 hh1)
      | (go_at_call 85; (with_reducible refine HP.out.mono ?_); rintro e w2 ⟨rfl, hw2⟩; have HW2 := Lib.hid hw2; have hh2 : w2.heap[w.heap.size]? = some (.cells (bvs (wB k x)).toArray 5 (0, 0)) := (by rw [HW2.out]; exact setRow_heap _ _ _ _ _ _ HH1.out); have hb2 : Below w.heap.size w w2 := (by rw [HW2.out]; exact below_setRow _ HB1.out (Nat.le_refl _)); have hg2 := old_heap HG.out hb2; have ho2 := own_below HO.out hb2; have HRD := Lib.hid (rd_bytes hh2 HWL.out k); have HO2 := Lib.hid ho2; have HG2 := Lib.hid hg2; have HB2 := Lib.hid hb2; have g0 : w2.cell? ⟨g, 0, none⟩ = some (.slice sv l.length cv) := cell_row hg2 0; have g1 : w2.cell? ⟨g, 1, none⟩ = some (.bool bad) := cell_row hg2 1; have f0 := free_row hg2 0; have hsz2 := hb2.size; clear hw2 hh2 hb2 hg2 ho2 c1)
      | (at_builtin; refine wpList_append_rd_at _ rfl _ _ 26 rfl base 5 (.int .u8 0) 1 1 Try.underlying26 infoU8 rfl (by decide) _ _ _ rfl HO2.out _ k (bvs (wB k x)) rfl HRD.out HWO.out ?c2 (by decide) ?c3 ?_; (case c2 => omega); (case c3 => omega); intro v3 w3 ho3 hb3 hg3 hat3; obtain ⟨s3, c3, rfl⟩ := own_slice1 ho3; have hh3 := (hg3.block g (Nat.lt_of_lt_of_le hgl hsz2) (fun e => HNE.out g e.symm rfl)).trans HG2.out; have q0 : w3.cell? ⟨g, 0, none⟩ = some (.slice sv l.length cv) := cell_row hh3 0; have e0 := free_row hh3 0; have HH3 := Lib.hid hh3; have HO3 := Lib.hid ho3; have HB3 := Lib.hid hb3; have HAT := Lib.hid hat3; have HG3 := Lib.hid hg3; clear hh3 ho3 hb3 hg3 hat3 g0 g1 f0))
    go_end0
    refine ⟨⟨rfl, ⟨_, by have := head_set HH3.out 0 (.slice s3 (l.length + k) c3); simpa using this, ?_, hb, ?_⟩, ((HB2.out.mono hbs).trans HB3.out).setCell (p := ⟨g, 0, none⟩) hb _⟩, ?_⟩
    · have hne3 : ∀ j, Value.ownBlock (.slice s3 (l.length + k) c3) = some j → j ≠ g := fun j hj => by
        rcases HAT.out with e | e
        · exact HNE.out j (by rw [← hj, e]; rfl)
        · rw [e] at hj; cases hj; omega
      have := own_move HO3.out (w' := w3.setCell ⟨g, 0, none⟩ (.slice s3 (l.length + k) c3)) (fun j hj => Below.heap_setCell _ _ _ _ (hne3 j hj))
      rw [List.length_append, HWL.out]
      simpa [bvs] using this
    · intro j hj
      rcases HAT.out with e | e
      · exact HNE.out j (by rw [← hj, e]; rfl)
      · rw [e] at hj; cases hj; omega
    · intro q sv' hq hqg hsv hown
      have e1 : sv' = .slice sv l.length cv := by
        have := cell_row HG.out 0
        rw [this] at hsv
        exact (Option.some.inj hsv).symm
      have k1 := HG3.out.block q (Nat.lt_of_lt_of_le hq HB2.out.size) (fun e => hown (by rw [e1]; exact e.symm))
      exact (Below.heap_setCell _ _ _ _ hqg).trans (k1.trans (HB2.out.block q hq))
  | false =>
    have HF := Lib.hid hf
    clear hf
    go_enter Try.func130, Try.ntmps130
    go_wp2_with (first
      | (refine wpList_make_rd _ rfl _ _ 26 rfl w.heap.size 5 (.int .u8 0) 1 1 Try.underlying26 infoU8 (k : Int) (k : Int) k rfl rfl rfl rfl (by omega) (by unfold maxLen; omega) (Nat.le_refl _) ?_; intro w1 how hb1; rw [made_bytes] at how; have hh1 := own_full how; have c1 : w1.cell? ⟨pb, po, none⟩ = some (.int .u64 (x : Int)) := (hb1.cell (p := ⟨pb, po, none⟩) hpl).trans HC.out; have HP := Lib.hid (cw_put hk hx hh1); unfold PutTo at HP; rw [HF.out] at HP; rw [if_neg (by simp)] at HP; have HH1 := Lib.hid hh1; have HB1 := Lib.hid hb1; clear how hb1 hh1)
      | (go_at_call 85; (with_reducible refine HP.out.mono ?_); rintro e w2 ⟨rfl, hw2⟩; have HW2 := Lib.hid hw2; have hh2 : w2.heap[w.heap.size]? = some (.cells (bvs (wB k x)).toArray 5 (0, 0)) := (by rw [HW2.out]; exact setRow_heap _ _ _ _ _ _ HH1.out); have hb2 : Below w.heap.size w w2 := (by rw [HW2.out]; exact below_setRow _ HB1.out (Nat.le_refl _)); have hg2 := old_heap HG.out hb2; have ho2 := own_move (w' := w2.setCell ⟨g, 1, none⟩ (.bool true)) (own_below HO.out hb2) (fun j hj => Below.heap_setCell _ _ _ _ (HNE.out j hj)); have hh2' := (Below.heap_setCell w2 ⟨g, 1, none⟩ (.bool true) w.heap.size (by show w.heap.size ≠ g; omega)).trans hh2; have HRD := Lib.hid (rd_bytes hh2' HWL.out k); have HO2 := Lib.hid ho2; have HG2 : Hid ((w2.setCell ⟨g, 1, none⟩ (.bool true)).heap[g]? = some (.cells #[.slice sv l.length cv, .bool true] 167 (0, 0))) := Lib.hid (by have := head_set hg2 1 (.bool true); simpa using this); have HBZ := Lib.hid hb2; have HB2 := Lib.hid (hb2.mono hbs); have g0 : w2.cell? ⟨g, 0, none⟩ = some (.slice sv l.length cv) := cell_row hg2 0; have g1 : w2.cell? ⟨g, 1, none⟩ = some (.bool bad) := cell_row hg2 1; have f0 := free_row hg2 0; have f1 := free_row hg2 1; have hsz2 := hb2.size; have hsz2' : (w2.setCell ⟨g, 1, none⟩ (.bool true)).heap.size = w2.heap.size := (by simp [World.setCell]); clear hw2 hh2 hh2' hb2 hg2 ho2 c1)
      | (at_builtin; refine wpList_append_rd_at _ rfl _ _ 26 rfl base 5 (.int .u8 0) 1 1 Try.underlying26 infoU8 rfl (by decide) _ _ _ rfl HO2.out _ k (bvs (wB k x)) rfl HRD.out HWO.out ?c2 (by decide) ?c3 ?_; (case c2 => omega); (case c3 => omega); intro v3 w3 ho3 hb3 hg3 hat3; obtain ⟨s3, c3, rfl⟩ := own_slice1 ho3; have hh3 := (hg3.block g (by rw [hsz2']; exact Nat.lt_of_lt_of_le hgl hsz2) (fun e => HNE.out g e.symm rfl)).trans HG2.out; have q0 : w3.cell? ⟨g, 0, none⟩ = some (.slice sv l.length cv) := cell_row hh3 0; have e0 := free_row hh3 0; have HH3 := Lib.hid hh3; have HO3 := Lib.hid ho3; have HB3 := Lib.hid hb3; have HAT := Lib.hid hat3; have HG3 := Lib.hid hg3; clear hh3 ho3 hb3 hg3 hat3 g0 g1 f0 f1))
    go_end0
    refine ⟨⟨rfl, ⟨_, by have := head_set HH3.out 0 (.slice s3 (l.length + k) c3); simpa using this, ?_, hb, ?_⟩, ((HB2.out.setCell (p := ⟨g, 1, none⟩) hb (.bool true)).trans HB3.out).setCell (p := ⟨g, 0, none⟩) hb _⟩, ?_⟩
    · have hne3 : ∀ j, Value.ownBlock (.slice s3 (l.length + k) c3) = some j → j ≠ g := fun j hj => by
        rcases HAT.out with e | e
        · exact HNE.out j (by rw [← hj, e]; rfl)
        · rw [e] at hj; cases hj; rw [hsz2']; omega
      have := own_move HO3.out (w' := w3.setCell ⟨g, 0, none⟩ (.slice s3 (l.length + k) c3)) (fun j hj => Below.heap_setCell _ _ _ _ (hne3 j hj))
      rw [List.length_append, HWL.out]
      simpa [bvs] using this
    · intro j hj
      rcases HAT.out with e | e
      · exact HNE.out j (by rw [← hj, e]; rfl)
      · rw [e] at hj; cases hj; rw [hsz2']; omega
    · intro q sv' hq hqg hsv hown
      have e1 : sv' = .slice sv l.length cv := by
        have := cell_row HG.out 0
        rw [this] at hsv
        exact (Option.some.inj hsv).symm
      have k1 := HG3.out.block q (by rw [hsz2']; exact Nat.lt_of_lt_of_le hq HBZ.out.size) (fun e => hown (by rw [e1]; exact e.symm))
      exact (Below.heap_setCell _ _ _ _ hqg).trans (k1.trans ((Below.heap_setCell _ _ _ _ hqg).trans (HBZ.out.block q hq)))
set_option maxRecDepth 10000 in
set_option maxHeartbeats 4000000 in
theorem ck_int (k : Nat) (n : Int) (pb po : Nat) (h : CwAt w base g l bad) (hk : 1 ≤ k ∧ k ≤ 8) (hn : -9223372036854775808 ≤ n ∧ n ≤ 9223372036854775807) (hc : w.cell? ⟨pb, po, none⟩ = some (.int .i64 n)) (hl : l.length ≤ 100000) (hbs : base ≤ w.heap.size) :
    Calls Try.prog 128 #[.pointer (some ⟨g, 0, none⟩), .int .i64 (k : Int), .pointer (some ⟨pb, po, none⟩)] w (CwTk w base g (l ++ wB k n.toNat) ((bad || decide (n < 0)) || !fitB k n.toNat)) := by
  obtain ⟨x, hxn⟩ : ∃ x : Nat, n.toNat = x := ⟨_, rfl⟩
  rw [hxn]
  have hba := (Below.refl w.heap.size w).alloc (Nat.le_refl _) (.cells #[.int .u64 (x : Int)] 43)
  have hnew := cell_row (new_heap w (.cells #[.int .u64 (x : Int)] 43 (0, 0))) 0
  obtain ⟨v, hg, ho, hb, hne⟩ := h
  have hpl := World.block_lt_of_cell? w _ hc
  have hgl : g < w.heap.size := (Array.getElem?_eq_some_iff.1 hg).1
  have hg1 := old_heap hg hba
  have hc1 := (hba.cell (p := ⟨pb, po, none⟩) hpl).trans hc
  have hc2 : (w.alloc (.cells #[.int .u64 (x : Int)] 43)).cell? ⟨pb, po, none⟩ = some (.int .i64 n) := hc1
  have hg0 : (w.alloc (.cells #[.int .u64 (x : Int)] 43)).cell? ⟨g, 1, none⟩ = some (.bool bad) := cell_row hg1 1
  have hf1 := free_row hg1 1
  obtain ⟨b2, hb2⟩ : ∃ b2, (bad || decide (n < 0)) = b2 := ⟨_, rfl⟩
  have hsz : (w.setCell ⟨g, 1, none⟩ (.bool b2)).heap.size = w.heap.size := by simp [World.setCell]
  have hcw0 : CwAt (w.setCell ⟨g, 1, none⟩ (.bool b2)) base g l b2 :=
    ⟨v, by have := head_set hg 1 (.bool b2); simpa using this, own_move ho (fun j hj => Below.heap_setCell _ _ _ _ (hne j hj)), hb, hne⟩
  have hba2 := (Below.refl (w.setCell ⟨g, 1, none⟩ (.bool b2)).heap.size (w.setCell ⟨g, 1, none⟩ (.bool b2))).alloc (Nat.le_refl _) (.cells #[.int .u64 (x : Int)] 43)
  have hcw := hcw0.below hba2
  have hbw := ((Below.refl base w).setCell (p := ⟨g, 1, none⟩) hb (.bool b2)).trans (hba2.mono (by omega))
  have hx64 : x < 2 ^ 64 := by omega
  have hcell := cell_row (new_heap (w.setCell ⟨g, 1, none⟩ (.bool b2)) (.cells #[.int .u64 (x : Int)] 43 (0, 0))) 0
  have hWK : ∀ w2, WKeep ((w.setCell ⟨g, 1, none⟩ (.bool b2)).alloc (.cells #[.int .u64 (x : Int)] 43)) g w2 → WKeep w g w2 := fun w2 h q sv hq hqg hsv hown => by
    have hk := hba2.block q (by rw [hsz]; exact hq)
    have hk2 := Below.heap_setCell w ⟨g, 1, none⟩ (.bool b2) q hqg
    have hsv2 : sv = v := by
      have := cell_row hg 0
      rw [this] at hsv
      exact (Option.some.inj hsv).symm
    have hc0 := cell_row (old_heap (head_set hg 1 (.bool b2)) hba2) 0
    have := h q sv (Nat.lt_of_lt_of_le (by rw [hsz]; exact hq) hba2.size) hqg (by rw [hsv2]; simpa using hc0) hown
    exact this.trans (hk.trans hk2)
  have HWK := Lib.hid hWK
  clear hWK
  have HW := Lib.hid (ck_wide k x _ 0 hcw hk hx64 hcell hl (by rw [World.size_alloc]; omega))
  rw [hsz] at HW
  unfold CwTk at HW ⊢
  rw [hb2]
  have HBW := Lib.hid hbw
  have hmx : mxI n 0 = (x : Int) := by rw [← hxn]; unfold mxI; split <;> omega
  have HMX := Lib.hid hmx
  have hxb : x ≤ 9223372036854775807 := by omega
  have HB2 := Lib.hid hb2
  clear hxn hg ho hcw hcw0 hba2 hbw hcell hmx hb2 hc1 hg1 hnew hx64 hba hsz
  have hwr : IntKind.u64.wrap (mxI n 0) = (x : Int) := by rw [HMX.out]; unfold IntKind.wrap; simp [IntKind.signed, IntKind.bits]; omega
  by_cases hn0 : n < 0
  · have ht : b2 = true := by rw [← HB2.out]; simp [hn0]
    subst ht
    cases bad
    all_goals
      clear HB2
      go_enter Try.func128, Try.ntmps128
      go_wp2_with (first
        | (go_at_call 130; go_must (refine HW.out.mono ?_; rintro e w2 ⟨⟨rfl, hc2, hb2⟩, hk2⟩; have HC2 := Lib.hid hc2; have HB2 := Lib.hid hb2; have HK2 := Lib.hid hk2; clear hc2 hb2 hk2)))
      go_end0
      exact ⟨⟨rfl, HC2.out, HBW.out.trans HB2.out⟩, HWK.out _ HK2.out⟩
  · have ht : b2 = bad := by rw [← HB2.out]; simp [hn0]
    subst ht
    cases b2
    all_goals
      clear HB2
      go_enter Try.func128, Try.ntmps128
      go_wp2_with (first
        | (go_at_call 130; go_must (refine HW.out.mono ?_; rintro e w2 ⟨⟨rfl, hc2, hb2⟩, hk2⟩; have HC2 := Lib.hid hc2; have HB2 := Lib.hid hb2; have HK2 := Lib.hid hk2; clear hc2 hb2 hk2)))
      go_end0
      exact ⟨⟨rfl, HC2.out, HBW.out.trans HB2.out⟩, HWK.out _ HK2.out⟩
end
end Go.Proofs.Ytlcbfpcabalgcaa
