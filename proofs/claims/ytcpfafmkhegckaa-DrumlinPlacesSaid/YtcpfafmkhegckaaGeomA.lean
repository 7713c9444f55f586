/-
  The contracts of a geometry's counts, the program's and the reference's, for geometries of small numbers.
-/
import Derived.Test.YtcpfafmkhegckaaProg
import Derived.Test.YtcpfafmkhegckaaBase
import Derived.Deep.RegionHeld3
import Derived.Deep.RegionWith
import Derived.Deep.DeepCutAuto
import Derived.Deep.CutBlock
import Derived.Deep.QuietTactic
import Derived.BigQuiet
namespace Go.Proofs.Ytcpfafmkhegckaa
open Go.RowKit
set_option linter.unusedVariables false
set_option linter.unusedSimpArgs false

/-! ### plain -/
def gup (n by_ : Nat) : Nat := (n + by_ - 1) / by_
def gCap (g : Nat) : Nat := 8 * g
def gChunks (i : Nat) : Nat := gup i 10
def gTables (s : Nat) : Nat := gup s 15
def gNeed (g i : Nat) : Nat := gup (gChunks i) (gCap g)
def gMost (s g i : Nat) : Nat := (s - 6 - 2 * gNeed g i) / 2
def gRoom (s g i : Nat) : Nat := gMost s g i * gCap g
theorem gup_le (n b : Nat) (hb : 1 ≤ b) : gup n b ≤ n := by
  unfold gup
  rcases Nat.eq_zero_or_pos n with h | h
  · subst h; rw [Nat.div_eq_of_lt (by omega)]; omega
  · rw [Nat.div_le_iff_le_mul_add_pred (by omega)]
    have : n ≤ b * n := Nat.le_mul_of_pos_left n (by omega)
    omega
/-- A geometry as a value. -/
def geomV (s g i : Int) : Value := .agg #[.int .i64 s, .int .i64 g, .int .i64 i]
/-- The three cells of a geometry that lies in a block. -/
def At3 (b : Nat) (s g i : Int) (w : World) : Prop := w.cell? ⟨b, 0, none⟩ = some (.int .i64 s) ∧ w.cell? ⟨b, 1, none⟩ = some (.int .i64 g) ∧ w.cell? ⟨b, 2, none⟩ = some (.int .i64 i)
theorem At3.below {b : Nat} {s g i : Int} {w w' : World} (h : At3 b s g i w) (hb : Below w.heap.size w w') : At3 b s g i w' :=
  ⟨(hb.cell (World.block_lt_of_cell? w _ h.1)).trans h.1, (hb.cell (World.block_lt_of_cell? w _ h.2.1)).trans h.2.1, (hb.cell (World.block_lt_of_cell? w _ h.2.2)).trans h.2.2⟩

theorem most_val (s n : Nat) (hs : s ≤ 1000) (hn : n ≤ 1000) :
    IntKind.i64.wrap ((if 0 < IntKind.i64.wrap (IntKind.i64.wrap ((s : Int) - 6) - IntKind.i64.wrap (2 * (n : Int))) then IntKind.i64.wrap (IntKind.i64.wrap ((s : Int) - 6) - IntKind.i64.wrap (2 * (n : Int))) else 0).tdiv 2) = (((s - 6 - 2 * n) / 2 : Nat) : Int) := by
  have e1 : IntKind.i64.wrap ((s : Int) - 6) = (s : Int) - 6 := IntWalk.i64_in _ (by omega)
  have e2 : IntKind.i64.wrap (2 * (n : Int)) = 2 * (n : Int) := IntWalk.i64_in _ (by omega)
  have e3 : IntKind.i64.wrap ((s : Int) - 6 - 2 * (n : Int)) = (s : Int) - 6 - 2 * (n : Int) := IntWalk.i64_in _ (by omega)
  rw [e1, e2, e3]
  by_cases h : (0 : Int) < (s : Int) - 6 - 2 * (n : Int)
  · rw [if_pos h, Int.tdiv_eq_ediv_of_nonneg (by omega), IntWalk.i64_in _ (by omega)]
    omega
  · rw [if_neg h]
    have : (s - 6 - 2 * n) / 2 = 0 := by omega
    rw [this]; rfl

/-! ### the program -/
set_option maxHeartbeats 400000 in
theorem among_any (n a b : Int) (w : World) :
    Calls Try.prog 56 #[.int .i64 n, .int .i64 a, .int .i64 b] w fun e w' => e = .returned (.bool (decide (a ≤ n) && decide (n ≤ b))) ∧ w = w' := by
  by_cases h1 : a ≤ n
  · have H := Lib.hid (decide_eq_true h1)
    go_enter Try.func56, Try.ntmps56
    go_wp2
    go_ret
    exact ⟨by simp [H.out], rfl⟩
  · have H := Lib.hid (decide_eq_false h1)
    go_enter Try.func56, Try.ntmps56
    go_wp2
    go_ret
    exact ⟨by simp [H.out], rfl⟩
set_option maxHeartbeats 400000 in
theorem up_any (n b : Nat) (w : World) (hn : n ≤ 100000) (hb : 1 ≤ b) (hb2 : b ≤ 100000) :
    Calls Try.prog 146 #[.int .i64 n, .int .i64 b] w fun e w' => e = .returned (.int .i64 (gup n b : Nat)) ∧ w = w' := by
  have h0 : ((b : Int) == 0) = false := by simp; omega
  have h1 : ((n : Int) + b - 1) / b = ((gup n b : Nat) : Int) := by unfold gup; rw [Int.natCast_ediv]; congr 1; omega
  have H1 := Lib.hid h1; clear h1
  go_enter Try.func146, Try.ntmps146
  go_wp2
  go_ret
  exact ⟨by rw [← H1.out]; rfl, rfl⟩
set_option maxHeartbeats 400000 in
theorem cap_any (s i : Int) (g : Nat) (w : World) (hg : g ≤ 1000) : Calls Try.prog 151 #[geomV s g i] w (RetN w (gCap g : Nat)) := by
  unfold geomV
  go_enter Try.func151, Try.ntmps151
  go_wp2
  go_ret
  exact ⟨by simp [gCap]; omega, (Below.refl _ _).alloc (Nat.le_refl _) _⟩
set_option maxHeartbeats 400000 in
theorem chunks_any (s g : Int) (i : Nat) (w : World) (hi : i ≤ 1000) : Calls Try.prog 103 #[geomV s g i] w (RetN w (gChunks i : Nat)) := by
  unfold geomV
  go_enter Try.func103, Try.ntmps103
  go_wp2_with (go_at_call 146; refine (up_any i 10 _ (by omega) (by omega) (by omega)).mono ?_; rintro e w' ⟨rfl, rfl⟩)
  go_ret
  exact ⟨rfl, (Below.refl _ _).alloc (Nat.le_refl _) _⟩
set_option maxHeartbeats 400000 in
theorem tables_any (g i : Int) (s : Nat) (w : World) (hs : s ≤ 1000) : Calls Try.prog 104 #[geomV s g i] w (RetN w (gTables s : Nat)) := by
  unfold geomV
  go_enter Try.func104, Try.ntmps104
  go_wp2_with (go_at_call 146; refine (up_any s 15 _ (by omega) (by omega) (by omega)).mono ?_; rintro e w' ⟨rfl, rfl⟩)
  go_ret
  exact ⟨rfl, (Below.refl _ _).alloc (Nat.le_refl _) _⟩
set_option maxHeartbeats 1000000 in
theorem most_any (s g i : Nat) (w : World) (hs : s ≤ 1000) (hg1 : 1 ≤ g) (hg : g ≤ 1000) (hi : i ≤ 1000) : Calls Try.prog 150 #[geomV s g i] w (RetN w (gMost s g i : Nat)) := by
  have hc1 : 8 ≤ gCap g := by unfold gCap; omega
  have hc2 : gCap g ≤ 8000 := by unfold gCap; omega
  have hch : gChunks i ≤ 1000 := Nat.le_trans (gup_le _ _ (by decide)) hi
  have hnd : gNeed g i ≤ 1000 := Nat.le_trans (gup_le _ _ (by omega)) hch
  have hbox := (Below.refl w.heap.size w).alloc (Nat.le_refl _) (.cells #[.int .i64 s, .int .i64 g, .int .i64 i] 26 (0, 0))
  unfold geomV
  go_enter Try.func150, Try.ntmps150
  go_wp2
  go_region_held3 (fun w' => w'.cell? ⟨w.heap.size, 0, none⟩ = some (.int .i64 s) ∧ w'.cell? ⟨w.heap.size, 1, none⟩ = some (.int .i64 g) ∧ w'.cell? ⟨w.heap.size, 2, none⟩ = some (.int .i64 i)) (first | (go_simp; done) | (exact At3.below ‹_› ‹_›) | trace_state)
    (first
      | (go_at_call 103; refine (chunks_any _ _ i _ hi).mono ?_; rintro e w1 ⟨rfl, hb1⟩)
      | (go_at_call 151; refine (cap_any _ _ g _ hg).mono ?_; rintro e w2 ⟨rfl, hb2⟩)
      | (go_at_call 146; rw [if_neg (show ¬ ((gCap g : Nat) : Int) < 1 by omega)]; refine (up_any (gChunks i) (gCap g) _ (by omega) (by omega) (by omega)).mono ?_; rintro e w3 ⟨rfl, rfl⟩))
  rw [most_val s (gup (gChunks i) (gCap g)) hs hnd, show (((s - 6 - 2 * gup (gChunks i) (gCap g)) / 2 : Nat) : Int) = ((gMost s g i : Nat) : Int) from rfl]
  go_wp2
  all_goals
    go_ret
    exact ⟨rfl, bnext (bnext hbox.drew hb1) hb2⟩

/-- The three cells of a geometry, as a condition. -/
theorem at3_new (w : World) (t : TypeId) (s g i : Int) : At3 w.heap.size s g i (w.alloc (.cells #[.int .i64 s, .int .i64 g, .int .i64 i] t (0, 0))) := by
  have h := heap_alloc_new w (.cells #[.int .i64 s, .int .i64 g, .int .i64 i] t (0, 0))
  exact ⟨by rw [cell_row h]; rfl, by rw [cell_row h]; rfl, by rw [cell_row h]; rfl⟩
set_option maxHeartbeats 1000000 in
theorem room_any (s g i : Nat) (w : World) (hs : s ≤ 1000) (hg1 : 1 ≤ g) (hg : g ≤ 1000) (hi : i ≤ 1000) : Calls Try.prog 114 #[geomV s g i] w (RetN w (gRoom s g i : Nat)) := by
  have hm : gMost s g i ≤ 1000 := by unfold gMost; omega
  have hc2 : gCap g ≤ 8000 := by unfold gCap; omega
  have hp : IntKind.i64.wrap (((gMost s g i : Nat) : Int) * ((gCap g : Nat) : Int)) = ((gRoom s g i : Nat) : Int) := by
    have h1 : gMost s g i * gCap g ≤ 1000 * 8000 := Nat.mul_le_mul hm hc2
    rw [← Int.natCast_mul, IntWalk.i64_in _ (by omega)]; rfl
  have hbox := (Below.refl w.heap.size w).alloc (Nat.le_refl _) (.cells #[.int .i64 s, .int .i64 g, .int .i64 i] 26 (0, 0))
  have HP := Lib.hid hp; clear hp
  unfold geomV
  go_enter Try.func114, Try.ntmps114
  go_wp2
  go_region_held3 (fun w' => w'.cell? ⟨w.heap.size, 0, none⟩ = some (.int .i64 s) ∧ w'.cell? ⟨w.heap.size, 1, none⟩ = some (.int .i64 g) ∧ w'.cell? ⟨w.heap.size, 2, none⟩ = some (.int .i64 i)) (first | (go_simp; done) | (exact At3.below ‹_› ‹_›))
    (first
      | (go_at_call 150; refine (most_any s g i _ hs hg1 hg hi).mono ?_; rintro e w1 ⟨rfl, hb1⟩)
      | (go_at_call 151; refine (cap_any _ _ g _ hg).mono ?_; rintro e w2 ⟨rfl, hb2⟩))
  rw [HP.out]
  go_wp2
  go_ret
  exact ⟨rfl, bnext (bnext hbox.drew hb1) hb2⟩
/-- May it be? (numbers as they came) -/
def gIn (s g i : Int) : Bool := decide (8 ≤ s ∧ s ≤ 200 ∧ 1 ≤ g ∧ g ≤ 32 ∧ 2 ≤ i ∧ i ≤ 200)
def gMay (s g i : Int) : Bool := gIn s g i && decide (8 ≤ gRoom s.toNat g.toNat i.toNat)
set_option maxHeartbeats 1000000 in
theorem check_out (s g i : Int) (w : World) (h : gIn s g i = false) : Calls Try.prog 61 #[geomV s g i] w (RetN w 1) := by
  have hbox := (Below.refl w.heap.size w).alloc (Nat.le_refl _) (.cells #[.int .i64 s, .int .i64 g, .int .i64 i] 26 (0, 0))
  unfold geomV
  unfold gIn at h
  simp only [decide_eq_false_iff_not] at h
  by_cases h1 : 8 ≤ s ∧ s ≤ 200
  · have e1 : (decide ((8 : Int) ≤ s) && decide (s ≤ 200)) = true := by simp [h1]
    by_cases h2 : 1 ≤ g ∧ g ≤ 32
    · have e2 : (decide ((1 : Int) ≤ g) && decide (g ≤ 32)) = true := by simp [h2]
      have h3 : ¬ (2 ≤ i ∧ i ≤ 200) := by omega
      have e3 : (decide ((2 : Int) ≤ i) && decide (i ≤ 200)) = false := by simp; omega
      have E1 := Lib.hid e1
      have E2 := Lib.hid e2
      have E3 := Lib.hid e3
      clear e1 e2 e3 h1 h2 h3 h
      go_enter Try.func61, Try.ntmps61
      go_wp2_with (go_at_call 56; refine (among_any _ _ _ _).mono ?_; rintro e w' ⟨rfl, rfl⟩; first | rw [E1.out] | rw [E2.out] | rw [E3.out])
      go_ret
      exact ⟨rfl, hbox⟩
    · have e2 : (decide ((1 : Int) ≤ g) && decide (g ≤ 32)) = false := by simp; omega
      have E1 := Lib.hid e1
      have E2 := Lib.hid e2
      clear e1 e2 h1 h2 h
      go_enter Try.func61, Try.ntmps61
      go_wp2_with (go_at_call 56; refine (among_any _ _ _ _).mono ?_; rintro e w' ⟨rfl, rfl⟩; first | rw [E1.out] | rw [E2.out])
      go_ret
      exact ⟨rfl, hbox⟩
  · have e1 : (decide ((8 : Int) ≤ s) && decide (s ≤ 200)) = false := by simp; omega
    have E1 := Lib.hid e1
    clear e1 h1 h
    go_enter Try.func61, Try.ntmps61
    go_wp2_with (go_at_call 56; refine (among_any _ _ _ _).mono ?_; rintro e w' ⟨rfl, rfl⟩; rw [E1.out])
    go_ret
    exact ⟨rfl, hbox⟩
set_option maxHeartbeats 1000000 in
theorem check_in (s g i : Nat) (w : World) (h : gIn s g i = true) : Calls Try.prog 61 #[geomV s g i] w (RetN w (if 8 ≤ gRoom s g i then 0 else 1)) := by
  have hbox := (Below.refl w.heap.size w).alloc (Nat.le_refl _) (.cells #[.int .i64 s, .int .i64 g, .int .i64 i] 26 (0, 0))
  unfold geomV
  simp only [gIn, decide_eq_true_eq] at h
  have E1 := Lib.hid (show (decide ((8 : Int) ≤ s) && decide ((s : Int) ≤ 200)) = true by simp; omega)
  have E2 := Lib.hid (show (decide ((1 : Int) ≤ g) && decide ((g : Int) ≤ 32)) = true by simp; omega)
  have E3 := Lib.hid (show (decide ((2 : Int) ≤ i) && decide ((i : Int) ≤ 200)) = true by simp; omega)
  have H := Lib.hid h
  clear h
  by_cases hr : 8 ≤ gRoom s g i
  · go_enter Try.func61, Try.ntmps61
    go_wp2_with (first
      | (go_at_call 56; refine (among_any _ _ _ _).mono ?_; rintro e w' ⟨rfl, rfl⟩; first | rw [E1.out] | rw [E2.out] | rw [E3.out])
      | (go_at_call 114; refine (room_any s g i _ (by have := H.out; omega) (by have := H.out; omega) (by have := H.out; omega) (by have := H.out; omega)).mono ?_; rintro e w1 ⟨rfl, hb1⟩))
    go_ret
    exact ⟨rfl, bnext hbox hb1⟩
  · go_enter Try.func61, Try.ntmps61
    go_wp2_with (first
      | (go_at_call 56; refine (among_any _ _ _ _).mono ?_; rintro e w' ⟨rfl, rfl⟩; first | rw [E1.out] | rw [E2.out] | rw [E3.out])
      | (go_at_call 114; refine (room_any s g i _ (by have := H.out; omega) (by have := H.out; omega) (by have := H.out; omega) (by have := H.out; omega)).mono ?_; rintro e w1 ⟨rfl, hb1⟩))
    go_ret
    exact ⟨rfl, bnext hbox hb1⟩
end Go.Proofs.Ytcpfafmkhegckaa
