/-
  The contracts of the reference's counts of a geometry; the statements GeomChecks and GeomGrows.
-/
import Derived.Test.YtcpfafmkhegckaaGeomA
namespace Go.Proofs.Ytcpfafmkhegckaa
open Go.RowKit
set_option linter.unusedVariables false
set_option linter.unusedSimpArgs false

theorem gup_lt (n b k : Nat) (hb : 1 ≤ b) : k * b < n ↔ k < gup n b := by
  unfold gup
  rw [Nat.lt_div_iff_mul_lt (by omega)]
  omega
set_option maxHeartbeats 400000 in
theorem rup_any (n b : Nat) (w : World) (hn : n ≤ 100000) (hb : 1 ≤ b) (hb2 : b ≤ 100000) :
    Calls Try.prog 147 #[.int .i64 n, .int .i64 b] w fun e w' => e = .returned (.int .i64 (gup n b : Nat)) ∧ w = w' := by
  have hg := gup_le n b hb
  have HK := Lib.hid (fun k => gup_lt n b k hb)
  have HN := Lib.hid hn
  go_enter Try.func147, Try.ntmps147
  go_wp2
  go_loop [5] (fun i => ∃ k : Nat, k ≤ gup n b ∧ i = .int .i64 k) (fun i => (gup n b - intOf i).toNat)
  case atStart => exact ⟨0, by omega, by rfl⟩
  case round =>
    obtain ⟨k, hk, rfl⟩ := hrel
    obtain ⟨q, hq⟩ : ∃ q, q = k * b := ⟨_, rfl⟩
    have hqb : q ≤ 100000 * 100000 := by rw [hq]; exact Nat.mul_le_mul (by omega) hb2
    have hqi : IntKind.i64.wrap ((k : Int) * (b : Int)) = (q : Int) := by
      rw [← Int.natCast_mul, ← hq]; exact IntWalk.i64_in _ (by omega)
    have hqw : wrap64 ((k : Int) * (b : Int)) = (q : Int) := by rw [← hqi, i64_w]
    have hkq := HK.out k
    rw [← hq] at hkq
    have HKQ := Lib.hid hkq
    clear hkq hq hqb
    by_cases hlt : k < gup n b
    · have h1 : (q : Int) < n := by have := HKQ.out.2 hlt; omega
      go_wp2
      go_round
      case rel => exact ⟨k + 1, by omega, by go_num⟩
      case measure => simp [intOf]; omega
    · have h1 : ¬ (q : Int) < n := by have := fun h => HKQ.out.1 h; omega
      go_wp2
      obtain rfl : k = gup n b := by omega
      go_ret
      exact ⟨rfl, rfl⟩

set_option maxHeartbeats 400000 in
theorem rcap_any (s i : Int) (g : Nat) (w : World) (hg : g ≤ 1000) : Calls Try.prog 106 #[geomV s g i] w (RetN w (gCap g : Nat)) := by
  unfold geomV
  go_enter Try.func106, Try.ntmps106
  go_wp2
  go_ret
  exact ⟨by simp [gCap], (Below.refl _ _).alloc (Nat.le_refl _) _⟩
set_option maxHeartbeats 400000 in
theorem rchunks_any (s g : Int) (i : Nat) (w : World) (hi : i ≤ 1000) : Calls Try.prog 148 #[geomV s g i] w (RetN w (gChunks i : Nat)) := by
  unfold geomV
  go_enter Try.func148, Try.ntmps148
  go_wp2_with (go_at_call 147; refine (rup_any i 10 _ (by omega) (by omega) (by omega)).mono ?_; rintro e w' ⟨rfl, rfl⟩)
  go_ret
  exact ⟨rfl, (Below.refl _ _).alloc (Nat.le_refl _) _⟩
set_option maxHeartbeats 1000000 in
theorem rmost_any (s g i : Nat) (w : World) (hs : s ≤ 1000) (hg1 : 1 ≤ g) (hg : g ≤ 1000) (hi : i ≤ 1000) : Calls Try.prog 105 #[geomV s g i] w (RetN w (gMost s g i : Nat)) := by
  have hc1 : 8 ≤ gCap g := by unfold gCap; omega
  have hc2 : gCap g ≤ 8000 := by unfold gCap; omega
  have hch : gChunks i ≤ 1000 := Nat.le_trans (gup_le _ _ (by decide)) hi
  have hnd : gNeed g i ≤ 1000 := Nat.le_trans (gup_le _ _ (by omega)) hch
  have hv : IntKind.i64.wrap (IntKind.i64.wrap ((s : Int) - 6) - IntKind.i64.wrap (2 * ((gup (gChunks i) (gCap g) : Nat) : Int))) = (s : Int) - 6 - 2 * ((gNeed g i : Nat) : Int) := by
    rw [show gup (gChunks i) (gCap g) = gNeed g i from rfl, IntWalk.i64_in ((s : Int) - 6) (by omega), IntWalk.i64_in (2 * ((gNeed g i : Nat) : Int)) (by omega), IntWalk.i64_in _ (by omega)]
  have HV := Lib.hid hv; clear hv
  have hbox := (Below.refl w.heap.size w).alloc (Nat.le_refl _) (.cells #[.int .i64 s, .int .i64 g, .int .i64 i] 23 (0, 0))
  have hm : ((gMost s g i : Nat) : Int) = if (s : Int) - 6 - 2 * ((gNeed g i : Nat) : Int) < 0 then 0 else ((s : Int) - 6 - 2 * ((gNeed g i : Nat) : Int)) / 2 := by
    unfold gMost
    split <;> omega
  have HM := Lib.hid hm; clear hm
  unfold geomV
  go_enter Try.func105, Try.ntmps105
  go_wp2
  go_region_held3 (fun w' => w'.cell? ⟨w.heap.size, 0, none⟩ = some (.int .i64 s) ∧ w'.cell? ⟨w.heap.size, 1, none⟩ = some (.int .i64 g) ∧ w'.cell? ⟨w.heap.size, 2, none⟩ = some (.int .i64 i)) (first | (go_simp; done) | (exact At3.below ‹_› ‹_›))
    (first
      | (go_at_call 148; refine (rchunks_any _ _ i _ hi).mono ?_; rintro e w1 ⟨rfl, hb1⟩)
      | (go_at_call 106; refine (rcap_any _ _ g _ hg).mono ?_; rintro e w2 ⟨rfl, hb2⟩)
      | (go_at_call 147; refine (rup_any (gChunks i) (gCap g) _ (by omega) (by omega) (by omega)).mono ?_; rintro e w3 ⟨rfl, rfl⟩))
  rw [HV.out]
  have hM := HM.out
  by_cases hneg : (s : Int) - 6 - 2 * ((gNeed g i : Nat) : Int) < 0
  · rw [if_pos hneg] at hM
    have HM2 := Lib.hid hM
    clear hM
    go_wp2
    go_ret
    exact ⟨by rw [HM2.out]; rfl, bnext (bnext hbox.drew hb1) hb2⟩
  · rw [if_neg hneg] at hM
    have HM2 := Lib.hid hM
    clear hM
    go_wp2
    go_ret
    exact ⟨by rw [HM2.out]; rfl, bnext (bnext hbox.drew hb1) hb2⟩
set_option maxHeartbeats 1000000 in
theorem rroom_any (s g i : Nat) (w : World) (hs : s ≤ 1000) (hg1 : 1 ≤ g) (hg : g ≤ 1000) (hi : i ≤ 1000) : Calls Try.prog 48 #[geomV s g i] w (RetN w (gRoom s g i : Nat)) := by
  have hm : gMost s g i ≤ 1000 := by unfold gMost; omega
  have hc2 : gCap g ≤ 8000 := by unfold gCap; omega
  have hp : IntKind.i64.wrap (((gMost s g i : Nat) : Int) * ((gCap g : Nat) : Int)) = ((gRoom s g i : Nat) : Int) := by
    have h1 : gMost s g i * gCap g ≤ 1000 * 8000 := Nat.mul_le_mul hm hc2
    rw [← Int.natCast_mul, IntWalk.i64_in _ (by omega)]; rfl
  have hbox := (Below.refl w.heap.size w).alloc (Nat.le_refl _) (.cells #[.int .i64 s, .int .i64 g, .int .i64 i] 23 (0, 0))
  have HP := Lib.hid hp; clear hp
  unfold geomV
  go_enter Try.func48, Try.ntmps48
  go_wp2
  go_region_held3 (fun w' => w'.cell? ⟨w.heap.size, 0, none⟩ = some (.int .i64 s) ∧ w'.cell? ⟨w.heap.size, 1, none⟩ = some (.int .i64 g) ∧ w'.cell? ⟨w.heap.size, 2, none⟩ = some (.int .i64 i)) (first | (go_simp; done) | (exact At3.below ‹_› ‹_›))
    (first
      | (go_at_call 105; refine (rmost_any s g i _ hs hg1 hg hi).mono ?_; rintro e w1 ⟨rfl, hb1⟩)
      | (go_at_call 106; refine (rcap_any _ _ g _ hg).mono ?_; rintro e w2 ⟨rfl, hb2⟩))
  rw [HP.out]
  go_wp2
  go_ret
  exact ⟨rfl, bnext (bnext hbox.drew hb1) hb2⟩
set_option maxHeartbeats 1000000 in
theorem rmay_in (s g i : Nat) (w : World) (h : gIn s g i = true) : Calls Try.prog 7 #[geomV s g i] w (RetT w (decide (8 ≤ gRoom s g i))) := by
  have hbox := (Below.refl w.heap.size w).alloc (Nat.le_refl _) (.cells #[.int .i64 s, .int .i64 g, .int .i64 i] 23 (0, 0))
  unfold geomV
  simp only [gIn, decide_eq_true_eq] at h
  obtain ⟨h1, h2, h3, h4, h5, h6⟩ := h
  by_cases hr : 8 ≤ gRoom s g i
  · have HR := Lib.hid (decide_eq_true hr)
    have hr2 : (8 : Int) ≤ ((gRoom s g i : Nat) : Int) := by omega
    clear hr
    go_enter Try.func7, Try.ntmps7
    go_wp2_with (go_at_call 48; refine (rroom_any s g i _ (by omega) (by omega) (by omega) (by omega)).mono ?_; rintro e w1 ⟨rfl, hb1⟩)
    go_ret
    exact ⟨by simp [HR.out], bnext hbox hb1⟩
  · have HR := Lib.hid (decide_eq_false hr)
    have hr2 : ¬ (8 : Int) ≤ ((gRoom s g i : Nat) : Int) := by omega
    clear hr
    go_enter Try.func7, Try.ntmps7
    go_wp2_with (go_at_call 48; refine (rroom_any s g i _ (by omega) (by omega) (by omega) (by omega)).mono ?_; rintro e w1 ⟨rfl, hb1⟩)
    go_ret
    exact ⟨by simp [HR.out]; omega, bnext hbox hb1⟩
set_option maxHeartbeats 400000 in
theorem own_any (s g i : Int) (w : World) : Calls Try.prog 8 #[geomV s g i] w fun e w' => e = .returned (geomV s g i) ∧ Below w.heap.size w w' := by
  unfold geomV
  go_enter Try.func8, Try.ntmps8
  go_wp2
  exact bodyPost_ret (v := .agg #[.int .i64 s, .int .i64 g, .int .i64 i]) (by simp [results, Try.results8, go_sem]) rfl ⟨rfl, ((Below.refl _ _).alloc (Nat.le_refl _) _).alloc (by simp) _⟩
end Go.Proofs.Ytcpfafmkhegckaa
