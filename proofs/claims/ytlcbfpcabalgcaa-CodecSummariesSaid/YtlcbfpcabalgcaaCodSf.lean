/-
  Codec: Summary's flag, both modes.
-/
import Derived.Test.YtlcbfpcabalgcaaCodMEntry
import Derived.Test.YtlcbfpcabalgcaaCodRw
import Derived.Test.YtlcbfpcabalgcaaCodSg
namespace Go.Proofs.Ytlcbfpcabalgcaa
open Go.RowKit
set_option linter.unusedVariables false
set_option linter.unusedSimpArgs false
set_option linter.unnecessarySimpa false
def flagN (c : Bool) : Int := if c then 1 else 0
theorem setCell_keep {w : World} {b o : Nat} {v : Value} (h : w.cell? ⟨b, o, none⟩ = some v) : w.setCell ⟨b, o, none⟩ v = w := by
  unfold World.cell? at h
  unfold World.setCell
  split at h <;> rename_i hb
  · rename_i cs T f
    have hk : w.heap.modify b (fun x => match x with | .cells c elem frozen => .cells (c.setIfInBounds o v) elem frozen | o => o) = w.heap := by
      apply Array.ext_getElem?
      intro i
      rw [Array.getElem?_modify]
      by_cases hi : b = i
      · subst hi; rw [if_pos rfl, hb, Option.map_some]; simp only [set_same _ _ _ h]
      · rw [if_neg hi]
    show { w with heap := w.heap.modify b (fun x => match x with | .cells c elem frozen => .cells (c.setIfInBounds o v) elem frozen | o => o) } = w
    rw [hk]
  all_goals simp_all
theorem CwAt.setCell {w : World} {base g p o : Nat} {l : List UInt8} {bad : Bool} {u : Value} (h : CwAt w base g l bad) (hp : p ≠ g) (hs : ∀ sv, w.cell? ⟨g, 0, none⟩ = some sv → sv.ownBlock ≠ some p) : CwAt (w.setCell ⟨p, o, none⟩ u) base g l bad := by
  obtain ⟨v, hg, ho, hb, hne⟩ := h
  have h0 := hs v (cell_row hg 0)
  exact ⟨v, (Below.heap_setCell w ⟨p, o, none⟩ u g (fun e => hp e.symm)).trans hg, own_move ho (fun j hj => Below.heap_setCell _ _ _ _ (fun e => h0 (by rw [hj]; exact congrArg some e))), hb, hne⟩
theorem CwAt.fresh {w : World} {base g : Nat} {l : List UInt8} {bad : Bool} (h : CwAt w base g l bad) : g < w.heap.size ∧ ∀ sv, w.cell? ⟨g, 0, none⟩ = some sv → sv.ownBlock ≠ some w.heap.size := by
  obtain ⟨v, hg, ho, hb, hne⟩ := h
  refine ⟨(Array.getElem?_eq_some_iff.1 hg).1, fun sv hsv e => ?_⟩
  rw [show w.cell? ⟨g, 0, none⟩ = some v from cell_row hg 0] at hsv
  obtain rfl := Option.some.inj hsv
  exact Nat.lt_irrefl _ (own_block_lt ho _ e)
/-- A number written from a block of its own: the block stays. -/
theorem ck_own {w : World} {base g p : Nat} {l : List UInt8} {bad : Bool} {T : TypeId} (k : Nat) (n : Int) (h : CwAt w base g l bad) (hk : 1 ≤ k ∧ k ≤ 8) (hn : -9223372036854775808 ≤ n ∧ n ≤ 9223372036854775807) (hc : w.heap[p]? = some (.cells #[.int .i64 n] T (0, 0))) (hp : p ≠ g) (hs : ∀ sv, w.cell? ⟨g, 0, none⟩ = some sv → sv.ownBlock ≠ some p) (hl : l.length ≤ 100000) (hbs : base ≤ w.heap.size) :
    Calls Try.prog 128 #[.pointer (some ⟨g, 0, none⟩), .int .i64 (k : Int), .pointer (some ⟨p, 0, none⟩)] w fun e w' => e = .returned (.tuple #[]) ∧ CwAt w' base g (l ++ wB k n.toNat) ((bad || decide (n < 0)) || !fitB k n.toNat) ∧ Below base w w' ∧ w'.heap[p]? = some (.cells #[.int .i64 n] T (0, 0)) := by
  refine (ck_int k n p 0 h hk hn (cell_row hc 0) hl hbs).mono ?_
  rintro e w' ⟨⟨rfl, h1, h2⟩, h3⟩
  refine ⟨rfl, h1, h2, ?_⟩
  obtain ⟨v, hg, ho, hb, hne⟩ := h
  exact (h3 p v (Array.getElem?_eq_some_iff.1 hc).1 hp (cell_row hg 0) (hs v (cell_row hg 0))).trans hc
set_option maxRecDepth 10000 in
set_option maxHeartbeats 4000000 in
theorem pw_flag {w : World} {base g : Nat} {l : List UInt8} {bad : Bool} (c : Bool) (pb po : Nat) (cs : Array Value) (T : TypeId) (h : CwAt w base g l bad) (hb : w.heap[pb]? = some (.cells cs T (0, 0))) (hcs : cs[po]? = some (.bool c)) (hl : l.length ≤ 90000) (hbs : base ≤ w.heap.size) (hpb : pb < base) :
    Calls Try.prog 99 #[wV g, .pointer (some ⟨pb, po, none⟩)] w (CwTo w base g (l ++ fB [(1, flagN c)]) (bad || fBad [(1, flagN c)])) := by
  have na_int := fun W => na_w ⟨g, 0, none⟩ W "drumlin/codec.int" (by simp)
  have mt_int := fun W => mw_int ⟨g, 0, none⟩ W
  have hal := (Below.refl w.heap.size w).alloc (Nat.le_refl _) (.cells #[.int .i64 0] 3 (0, 0))
  have HN := Lib.hid (heap_alloc_last w (.cells #[.int .i64 0] 3 (0, 0)))
  have HB1 := Lib.hid (old_heap hb hal)
  have HW1 := Lib.hid (h.below hal)
  have HBL := Lib.hid (show Below base w _ from hal.mono hbs)
  have hfr := h.fresh
  have HSV : Hid (∀ sv, (w.alloc (.cells #[.int .i64 0] 3 (0, 0))).cell? ⟨g, 0, none⟩ = some sv → sv.ownBlock ≠ some w.heap.size) := Lib.hid (fun sv hsv => hfr.2 sv ((hal.cell (p := ⟨g, 0, none⟩) hfr.1).symm.trans hsv))
  have hpg : w.heap.size ≠ g := by have := hfr.1; omega
  have hsz : (w.alloc (.cells #[.int .i64 0] 3 (0, 0))).heap.size = w.heap.size + 1 := by simp
  clear h hal hfr
  unfold wV
  unfold CwTo
  go_enter Try.func99, Try.ntmps99
  go_upto_region 1 with fail
  revert HN HB1 HW1 HBL HSV hpg hsz
  generalize w.alloc (.cells #[.int .i64 0] 3 (0, 0)) = w1
  generalize hp : w.heap.size = p
  intro HN HB1 HW1 HBL HSV hpg hsz
  have hpp : ¬ (pb = p) := by omega
  have c0 : w1.cell? ⟨pb, po, none⟩ = some (.bool c) := (cell_row HB1.out po).trans hcs
  have cn : w1.cell? ⟨p, 0, none⟩ = some (.int .i64 0) := cell_row HN.out 0
  have fn : w1.frozen? ⟨p, 0, none⟩ = false := free_row HN.out 0
  have fb := free_row HB1.out po
  have HX : ∀ w2, CwAt w2 base g l bad → w2.heap[p]? = some (.cells #[.int .i64 (flagN c)] 3 (0, 0)) → (∀ sv, w2.cell? ⟨g, 0, none⟩ = some sv → sv.ownBlock ≠ some p) → base ≤ w2.heap.size → Calls Try.prog 128 #[.pointer (some ⟨g, 0, none⟩), .int .i64 (1 : Int), .pointer (some ⟨p, 0, none⟩)] w2 fun e w' => e = .returned (.tuple #[]) ∧ CwAt w' base g (l ++ fB [(1, flagN c)]) (bad || fBad [(1, flagN c)]) ∧ Below base w2 w' ∧ w'.heap[p]? = some (.cells #[.int .i64 (flagN c)] 3 (0, 0)) := fun w2 h2 hc2 hs2 hz2 => by
    have := ck_own 1 (flagN c) h2 (by decide) (by cases c <;> decide) hc2 hpg hs2 (by omega) hz2
    have hE : l ++ fB [(1, flagN c)] = l ++ wB 1 (flagN c).toNat := by simp [fB]
    have hF : (bad || fBad [(1, flagN c)]) = ((bad || decide (flagN c < 0)) || !fitB 1 (flagN c).toNat) := by simp [fBad, Bool.or_assoc]
    rw [hE, hF]
    exact this
  have HXX := Lib.hid HX
  clear HX
  cases c with
  | true =>
    have h2 := HW1.out.setCell (o := 0) (u := .int .i64 1) hpg HSV.out
    have hn2 := head_set HN.out 0 (.int .i64 1)
    have HP := Lib.hid (HXX.out _ h2 (by simpa [flagN] using hn2) (fun sv hsv => HSV.out sv (by
      have := Below.heap_setCell w1 ⟨p, 0, none⟩ (.int .i64 1) g (fun e => hpg e.symm)
      unfold World.cell? at hsv ⊢
      rw [this] at hsv
      exact hsv)) (by simp [World.setCell]; omega))
    have HBQ := Lib.hid (HBL.out.setCell (p := ⟨p, 0, none⟩) (by show base ≤ p; omega) (.int .i64 1))
    have HBP := Lib.hid ((Below.heap_setCell w1 ⟨p, 0, none⟩ (.int .i64 1) pb hpp).trans HB1.out)
    clear h2 hn2 HXX
    go_upto_region 3 with fail
    go_wp2_with (go_at_call 128; go_must (refine HP.out.mono ?_; rintro e w2 ⟨rfl, hcw, hbw, hn2⟩; have HW2 := Lib.hid hcw; have HB2 := Lib.hid (HBQ.out.trans hbw); have hbb := (hbw.block pb hpb).trans HBP.out; have k0 : w2.cell? ⟨p, 0, none⟩ = some (.int .i64 1) := cell_row hn2 0; have k1 : w2.cell? ⟨pb, po, none⟩ = some (.bool true) := (cell_row hbb po).trans hcs; have k2 := free_row hbb po; clear hcw hbw hn2 hbb))
    go_end0
    refine ⟨rfl, ?_, ?_⟩ <;> first | (rw [setCell_keep k1]; exact HW2.out) | (rw [setCell_keep k1]; exact HB2.out)
  | false =>
    have HP := Lib.hid (HXX.out _ HW1.out HN.out HSV.out (by omega))
    clear HXX
    go_upto_region 3 with fail
    go_wp2_with (go_at_call 128; go_must (refine HP.out.mono ?_; rintro e w2 ⟨rfl, hcw, hbw, hn2⟩; have HW2 := Lib.hid hcw; have HB2 := Lib.hid (HBL.out.trans hbw); have hbb := (hbw.block pb hpb).trans HB1.out; have k0 : w2.cell? ⟨p, 0, none⟩ = some (.int .i64 0) := cell_row hn2 0; have k1 : w2.cell? ⟨pb, po, none⟩ = some (.bool false) := (cell_row hbb po).trans hcs; have k2 := free_row hbb po; clear hcw hbw hn2 hbb))
    go_end0
    refine ⟨rfl, ?_, ?_⟩ <;> first | (rw [setCell_keep k1]; exact HW2.out) | (rw [setCell_keep k1]; exact HB2.out)
set_option maxRecDepth 10000 in
set_option maxHeartbeats 4000000 in
theorem pr_flag {w : World} {g a : Nat} {v : Value} {l : List UInt8} {bad : Bool} (pb po : Nat) (cs : Array Value) (T : TypeId) (h : CrAt w g v l a bad) (ha : a ≤ 1000) (hl : l.length ≤ 1000) (hb : w.heap[pb]? = some (.cells cs T (0, 0))) (hc : cs[po]? = some (.bool false)) (hpg : pb ≠ g) (hv : Apart (· = pb) v l) :
    Calls Try.prog 99 #[rV g, .pointer (some ⟨pb, po, none⟩)] w fun e w' => e = .returned (.tuple #[]) ∧ CrTo w g v l (a + 1) (bad || !rOk l a 1) pb po cs T (.bool (decide (rN l a 1 = 1))) w' := by
  have na_int := fun W => na_r ⟨g, 0, none⟩ W "drumlin/codec.int" (by simp)
  have mt_int := fun W => mr_int ⟨g, 0, none⟩ W
  have hgl : g < w.heap.size := (Array.getElem?_eq_some_iff.1 h.box).1
  have hpl : pb < w.heap.size := (Array.getElem?_eq_some_iff.1 hb).1
  have hba := (Below.refl w.heap.size w).alloc (Nat.le_refl _) (.cells #[.int .i64 0] 3 (0, 0))
  have hnew := heap_alloc_last w (.cells #[.int .i64 0] 3 (0, 0))
  have hvn : Apart (· = w.heap.size) v l := byt_apart h.byt
  have HW := Lib.hid (cr_int 1 w.heap.size 0 #[.int .i64 0] 3 0 (h.below hba) (by decide) ha hl hnew rfl (by omega) hvn)
  have HB := Lib.hid hba
  have HP := Lib.hid (old_heap hb hba)
  have HC := Lib.hid hc
  have HN := Lib.hid hnew
  have c0 := (cell_row HP.out po).trans hc
  have cn := cell_row HN.out 0
  obtain ⟨x, hxe⟩ : ∃ x, rN l a 1 = x := ⟨_, rfl⟩
  obtain ⟨b2, hb2⟩ : ∃ b2, (bad || !rOk l a 1) = b2 := ⟨_, rfl⟩
  rw [hxe, hb2] at HW
  rw [hxe, hb2]
  clear hb2 h hba hnew hb hc
  unfold rV
  go_enter Try.func99, Try.ntmps99
  go_upto_region 1 with fail
  go_upto_region 3 with fail
  go_wp2_with (go_at_call 132; go_must (refine HW.out.mono ?_; rintro e w2 ⟨rfl, hct⟩; have hbx := hct.cell; have hpb2 := hct.keep.heap HP.out (by omega); have k0 : w2.cell? ⟨w.heap.size, 0, none⟩ = some (.int .i64 (x : Int)) := cell_row hbx 0; have k1 : w2.cell? ⟨pb, po, none⟩ = some (.bool false) := (cell_row hpb2 po).trans HC.out; have f1 := free_row hpb2 po; have HCT := Lib.hid hct; have HPB := Lib.hid hpb2; clear hct hbx hpb2))
  go_end0
  have hde : (decide ((x : Int) = 1)) = decide (x = 1) := by rw [Bool.eq_iff_iff]; simp; omega
  rw [← hde]
  exact ⟨rfl, cr_back HB.out HCT.out HPB.out hpg hv (Nat.le_refl _)⟩
end Go.Proofs.Ytlcbfpcabalgcaa
