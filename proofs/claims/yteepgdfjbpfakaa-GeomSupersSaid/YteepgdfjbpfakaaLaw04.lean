/-
  The statements GeomChecks and GeomGrows of layer 4.
-/
import Derived.Test.YteepgdfjbpfakaaGeomB
import Derived.Test.YteepgdfjbpfakaaGeomC
import Derived.Test.YteepgdfjbpfakaaReg
namespace Go.Proofs.Yteepgdfjbpfakaa
open Go.RowKit
set_option linter.unusedVariables false
set_option linter.unusedSimpArgs false

set_option maxHeartbeats 1000000 in
theorem awake04 (w : World) : Calls Try.prog 7 #[] w (RetT w true) := by
  have hbox := (Below.refl w.heap.size w).alloc (Nat.le_refl _) (.cells #[.int .i64 20, .int .i64 2, .int .i64 10] 25 (0, 0))
  have hA := at3_new w 25 20 2 10
  go_enter Try.func7, Try.ntmps7
  go_wp2_with (first
    | (go_at_call 9; refine (check_in 20 2 10 _ (by decide)).mono ?_; rintro e w1 ⟨rfl, hb1⟩; rw [show (if 8 ≤ gRoom 20 2 10 then (0 : Int) else 1) = 0 by decide]; have hA1 := At3.below hA hb1; have p1 := hA1.1; have p2 := hA1.2.1; have p3 := hA1.2.2)
    | (go_at_call 19; refine (room_any 20 2 10 _ (by decide) (by decide) (by decide) (by decide)).mono ?_; rintro e w2 ⟨rfl, hb2⟩; rw [show ((gRoom 20 2 10 : Nat) : Int) = 96 by decide]; have hA2 := At3.below hA1 hb2; have p4 := hA2.1; have p5 := hA2.2.1; have p6 := hA2.2.2)
    | (go_at_call 21; refine (reserve_any 20 2 10 _ (by decide) (by decide) (by decide) (by decide)).mono ?_; rintro e w3 ⟨rfl, hb3⟩; rw [show ((20 : Nat) : Int) - ((gMost 20 2 10 : Nat) : Int) = 14 by decide]; have hA3 := At3.below hA2 hb3; have p7 := hA3.1; have p8 := hA3.2.1; have p9 := hA3.2.2)
    | (go_at_call 23; refine (sectors_any 20 2 10 _ (by decide) (by decide) (by decide)).mono ?_; rintro e w4 ⟨rfl, hb4⟩; rw [show ((gSectors 20 2 10 : Nat) : Int) = 369 by decide]; have hA4 := At3.below hA3 hb4; have q1 := hA4.1; have q2 := hA4.2.1; have q3 := hA4.2.2)
    | (go_at_call 26; refine (block_in 20 2 10 0 1 0 _ (by decide) (by decide) (by decide) (by decide) (by decide) (by decide)).mono ?_; rintro e w5 ⟨rfl, hb5⟩; rw [show ((gSum 20 2 10 0 1 + 1 + 0 : Nat) : Int) = 19 by decide]))
  go_ret
  exact ⟨rfl, bnext (bnext (bnext (bnext (bnext hbox hb1) hb2) hb3) hb4) hb5⟩

/-- Two geometries' cells: the reference's and the program's. -/
def At6 (b c : Nat) (s g i : Int) (w : World) : Prop := At3 b s g i w ∧ At3 c s g i w
theorem At6.below {b c : Nat} {s g i : Int} {w w' : World} (h : At6 b c s g i w) (hb : Below w.heap.size w w') : At6 b c s g i w' := ⟨h.1.below hb, h.2.below hb⟩
theorem most_small (s g i : Nat) : 2 * gMost s g i ≤ s - 6 := by unfold gMost; omega
set_option maxHeartbeats 4000000 in
set_option maxRecDepth 100000 in
theorem geomChecks_in (s g i : Nat) (w : World) (h : gIn s g i = true) : Calls Try.prog 3 #[geomV s g i] w (RetT w true) := by
  have hbox := (Below.refl w.heap.size w).alloc (Nat.le_refl _) (.cells #[.int .i64 s, .int .i64 g, .int .i64 i] 23 (0, 0))
  have hA := at3_new w 23 s g i
  have hin := h
  simp only [gIn, decide_eq_true_eq] at hin
  obtain ⟨h1, h2, h3, h4, h5, h6⟩ := hin
  have l1 : s ≤ 1000 := by omega
  have l2 : g ≤ 1000 := by omega
  have l3 : i ≤ 1000 := by omega
  have l4 : 1 ≤ g := by omega
  have HIN := Lib.hid h
  have hms := most_small s g i
  have hml : gMost s g i ≤ 1000 := by omega
  have hrv : IntKind.i64.wrap ((s : Int) - ((gMost s g i : Nat) : Int)) = (s : Int) - ((gMost s g i : Nat) : Int) := IntWalk.i64_in _ (by omega)
  have hrv2 : IntKind.i64.wrap (((gMost s g i : Nat) : Int) + 4) = ((gMost s g i : Nat) : Int) + 4 := IntWalk.i64_in _ (by omega)
  have HRV := Lib.hid hrv
  have HRV2 := Lib.hid hrv2
  clear hrv hrv2 h
  unfold geomV
  go_enter Try.func3, Try.ntmps3
  go_upto_region 6 with (first
    | (go_at_call 7; refine (awake04 _).mono ?_; rintro e w1 ⟨rfl, hb1⟩; have hA1 := At3.below hA hb1; have p1 := hA1.1; have p2 := hA1.2.1; have p3 := hA1.2.2)
    | (go_at_call 8; refine (own_any s g i _).mono ?_; rintro e w2 ⟨rfl, hb2⟩; unfold geomV; have hA2 := At3.below hA1 hb2; have p4 := hA2.1; have p5 := hA2.2.1; have p6 := hA2.2.2; have z2 : w.heap.size < w2.heap.size := Nat.lt_of_lt_of_le (Nat.lt_of_lt_of_le (by simp) hb1.size) hb2.size))
  have hA6 : At6 w.heap.size w2.heap.size s g i (w2.alloc (.cells #[.int .i64 s, .int .i64 g, .int .i64 i] 25 (0, 0))) := ⟨hA2.below ((Below.refl _ _).alloc (Nat.le_refl _) _), at3_new w2 _ s g i⟩
  have hB3 := (bnext (bnext hbox hb1) hb2).alloc (Nat.le_of_lt z2) (.cells #[.int .i64 s, .int .i64 g, .int .i64 i] 25 (0, 0))
  generalize w2.alloc (.cells #[.int .i64 s, .int .i64 g, .int .i64 i] 25 (0, 0)) = W3 at hA6 hB3 ⊢
  clear p1 p2 p3 p4 p5 p6 hA2 hA1 hA hbox hb1 hb2 z2
  by_cases hr : 8 ≤ gRoom s g i
  · have HR := Lib.hid hr
    clear hr
    go_region_held3 (fun w' => (w'.cell? ⟨w.heap.size, 0, none⟩ = some (.int .i64 s) ∧ w'.cell? ⟨w.heap.size, 1, none⟩ = some (.int .i64 g) ∧ w'.cell? ⟨w.heap.size, 2, none⟩ = some (.int .i64 i)) ∧ (w'.cell? ⟨w2.heap.size, 0, none⟩ = some (.int .i64 s) ∧ w'.cell? ⟨w2.heap.size, 1, none⟩ = some (.int .i64 g) ∧ w'.cell? ⟨w2.heap.size, 2, none⟩ = some (.int .i64 i))) (first | exact hA6 | exact At6.below ‹_› ‹_›)
      (first
        | (go_at_call 9; refine (check_in s g i _ HIN.out).mono ?_; rintro e w4 ⟨rfl, hb4⟩; rw [if_pos HR.out])
        | (go_at_call 10; refine (rmay_in s g i _ HIN.out).mono ?_; rintro e w5 ⟨rfl, hb5⟩; rw [decide_eq_true HR.out]))
    have hA7 := At6.below (At6.below (w := W3.drew) hA6 hb4) hb5
    have hB5 := bnext (bnext hB3.drew hb4) hb5
    clear hA6 hB3 hb4 hb5
    go_upto_region 8 with (fail)
    have hgt : decide (((gMost s g i : Nat) : Int) + 4 < (s : Int) - ((gMost s g i : Nat) : Int)) = true := decide_eq_true (by omega)
    have hrv := HRV.out
    have hrv2 := HRV2.out
    go_region_held3 (fun w' => (w'.cell? ⟨w.heap.size, 0, none⟩ = some (.int .i64 s) ∧ w'.cell? ⟨w.heap.size, 1, none⟩ = some (.int .i64 g) ∧ w'.cell? ⟨w.heap.size, 2, none⟩ = some (.int .i64 i)) ∧ (w'.cell? ⟨w2.heap.size, 0, none⟩ = some (.int .i64 s) ∧ w'.cell? ⟨w2.heap.size, 1, none⟩ = some (.int .i64 g) ∧ w'.cell? ⟨w2.heap.size, 2, none⟩ = some (.int .i64 i))) (first | exact hA7 | exact At6.below ‹_› ‹_›)
      (first
        | (go_at_call 10; refine (rmay_in s g i _ HIN.out).mono ?_; rintro e x1 ⟨rfl, k1⟩; rw [decide_eq_true HR.out])
        | (go_at_call 11; refine (cap_any _ _ g _ l2).mono ?_; rintro e x2 ⟨rfl, k2⟩)
        | (go_at_call 12; refine (rcap_any _ _ g _ l2).mono ?_; rintro e x3 ⟨rfl, k3⟩)
        | (go_at_call 13; refine (chunks_any _ _ i _ l3).mono ?_; rintro e x4 ⟨rfl, k4⟩)
        | (go_at_call 14; refine (rchunks_any _ _ i _ l3).mono ?_; rintro e x5 ⟨rfl, k5⟩)
        | (go_at_call 15; refine (tables_any _ _ s _ l1).mono ?_; rintro e x6 ⟨rfl, k6⟩)
        | (go_at_call 16; refine (rtables_any _ _ s _ l1).mono ?_; rintro e x7 ⟨rfl, k7⟩)
        | (go_at_call 19; refine (room_any s g i _ l1 l4 l2 l3).mono ?_; rintro e x8 ⟨rfl, k8⟩)
        | (go_at_call 20; refine (rroom_any s g i _ l1 l4 l2 l3).mono ?_; rintro e x9 ⟨rfl, k9⟩)
        | (go_at_call 21; refine (reserve_any s g i _ l1 l4 l2 l3).mono ?_; rintro e x10 ⟨rfl, k10⟩)
        | (go_at_call 17; refine (most_any s g i _ l1 l4 l2 l3).mono ?_; rintro e x11 ⟨rfl, k11⟩)
        | (go_at_call 18; refine (rmost_any s g i _ l1 l4 l2 l3).mono ?_; rintro e x12 ⟨rfl, k12⟩))
    clear hgt hrv hrv2
    go_wp2
    go_ret
    exact ⟨rfl, by repeat (first | exact hB5.drew | refine bnext ?_ ‹_›)⟩
  · have HR := Lib.hid hr
    clear hr
    go_region_held3 (fun w' => (w'.cell? ⟨w.heap.size, 0, none⟩ = some (.int .i64 s) ∧ w'.cell? ⟨w.heap.size, 1, none⟩ = some (.int .i64 g) ∧ w'.cell? ⟨w.heap.size, 2, none⟩ = some (.int .i64 i)) ∧ (w'.cell? ⟨w2.heap.size, 0, none⟩ = some (.int .i64 s) ∧ w'.cell? ⟨w2.heap.size, 1, none⟩ = some (.int .i64 g) ∧ w'.cell? ⟨w2.heap.size, 2, none⟩ = some (.int .i64 i))) (first | exact hA6 | exact At6.below ‹_› ‹_›)
      (first
        | (go_at_call 9; refine (check_in s g i _ HIN.out).mono ?_; rintro e w4 ⟨rfl, hb4⟩; rw [if_neg HR.out])
        | (go_at_call 10; refine (rmay_in s g i _ HIN.out).mono ?_; rintro e w5 ⟨rfl, hb5⟩; rw [decide_eq_false HR.out]))
    have hA7 := At6.below (At6.below (w := W3.drew) hA6 hb4) hb5
    have hB5 := bnext (bnext hB3.drew hb4) hb5
    clear hA6 hB3 hb4 hb5
    go_upto_region 8 with (fail)
    have p1 := hA7.1.1
    have p2 := hA7.1.2.1
    have p3 := hA7.1.2.2
    refine wp_region_held_drew (S := (fun w' => w'.cell? ⟨w.heap.size, 0, none⟩ = some (.int .i64 s) ∧ w'.cell? ⟨w.heap.size, 1, none⟩ = some (.int .i64 g) ∧ w'.cell? ⟨w.heap.size, 2, none⟩ = some (.int .i64 i))) (by kernel_rfl) (by exact hA7.1) (fun hHeld => ?_)
    refine take1_ (i := 0) (v := ?_) (a' := ?_) (some 45) #[true, false, false, false, false, false, false, false, false, false, false, false, false, false, false, false, false, false, false, false, false, false, false, false, false, false, false, false, false, false, false, false, false, false, false, false, false, false, false, false, false, false, false, false, false, false, false, false, false, false, false, false, false, false, false, false, false] rfl rfl (by kernel_rfl) (fun _ _ _ h => h) (Or.inl ⟨by rfl, ?_⟩) hHeld ?_ ?_
    rotate_left
    · (intro w hSw; (try dsimp only at hSw); obtain ⟨s0, s1, s2⟩ := hSw; go_simp; (try with_reducible rfl))
    rotate_left
    · simp only [Act.put, List.setIfInBounds_toArray, List.set_cons_zero, List.set_cons_succ]
      rfl
    refine loud1_ (i := 1) (some 46) #[true, true, false, false, false, false, false, false, false, false, false, false, false, false, false, false, false, false, false, false, false, false, false, false, false, false, false, false, false, false, false, false, false, false, false, false, false, false, false, false, false, false, false, false, false, false, false, false, false, false, false, false, false, false, false, false, false] rfl rfl (by kernel_rfl) (fun K hK => ?_)
    go_simp
    (go_at_call 10; refine (rmay_in s g i _ HIN.out).mono ?_; rintro e x1 ⟨rfl, k1⟩; rw [decide_eq_false HR.out])
    refine hK.out _ _ (by exact At3.below ‹_› ‹_›) (fun hHeld' => ?_)
    clear hK K hHeld
    have hHeld := hHeld'
    clear hHeld'
    try simp only [Act.put, List.setIfInBounds_toArray, List.set_cons_zero, List.set_cons_succ]
    refine take1_ (i := 2) (v := ?_) (a' := ?_) (some 47) #[true, true, true, false, false, false, false, false, false, false, false, false, false, false, false, false, false, false, false, false, false, false, false, false, false, false, false, false, false, false, false, false, false, false, false, false, false, false, false, false, false, false, false, false, false, false, false, false, false, false, false, false, false, false, false, false, false] rfl rfl (by kernel_rfl) (fun _ _ _ h => h) (Or.inl ⟨by rfl, ?_⟩) hHeld ?_ ?_
    rotate_left
    · (intro w hSw; (try dsimp only at hSw); obtain ⟨s0, s1, s2⟩ := hSw; go_simp; (try with_reducible rfl))
    rotate_left
    · simp only [Act.put, List.setIfInBounds_toArray, List.set_cons_zero, List.set_cons_succ]
      rfl
    refine take1_ (i := 3) (v := ?_) (a' := ?_) (some 48) #[true, true, true, true, false, false, false, false, false, false, false, false, false, false, false, false, false, false, false, false, false, false, false, false, false, false, false, false, false, false, false, false, false, false, false, false, false, false, false, false, false, false, false, false, false, false, false, false, false, false, false, false, false, false, false, false, false] rfl rfl (by kernel_rfl) (fun _ _ _ h => h) (Or.inl ⟨by rfl, ?_⟩) hHeld ?_ ?_
    rotate_left
    · (intro w hSw; (try dsimp only at hSw); obtain ⟨s0, s1, s2⟩ := hSw; go_simp; (try with_reducible rfl))
    rotate_left
    · simp only [Act.put, List.setIfInBounds_toArray, List.set_cons_zero, List.set_cons_succ]
      rfl
    refine off_ (by kernel_rfl) (fun _ _ d _ _ h => by cases d <;> exact h) hHeld [4, 5, 6, 7, 8, 9, 10, 11, 12, 13, 14, 15, 16, 17, 18, 19, 20, 21, 22, 23, 24, 25, 26, 27, 28, 29, 30, 31, 32, 33, 34, 35, 36, 37, 38, 39, 40, 41, 42, 43, 44, 45, 46, 47, 48, 49, 50, 51, 52, 53, 54] [some 49, some 50, some 51, some 52, some 53, some 54, some 55, some 56, some 57, some 58, some 59, some 60, some 61, some 62, some 63, some 64, some 65, some 66, some 67, some 68, some 69, some 70, some 71, some 72, some 73, some 74, some 75, some 76, some 77, some 78, some 79, some 80, some 81, some 82, some 83, some 84, some 85, some 86, some 87, some 88, some 89, some 90, some 91, some 92, some 93, some 94, some 95, some 96, some 97, some 98, some 99] [(48, some true)] #[true, true, true, true, true, true, true, true, true, true, true, true, true, true, true, true, true, true, true, true, true, true, true, true, true, true, true, true, true, true, true, true, true, true, true, true, true, true, true, true, true, true, true, true, true, true, true, true, true, true, true, true, true, true, true, false, false] 2 rfl (by kernel_rfl) (by repeat (first | exact trivial | refine ⟨by rfl, ?_⟩)) (a' := ?_) ?_ ?_
    rotate_left
    · simp only [putOff, Act.put, List.setIfInBounds_toArray, List.set_cons_zero, List.set_cons_succ]
      rfl
    refine take1_ (i := 55) (v := ?_) (a' := ?_) (some 100) #[true, true, true, true, true, true, true, true, true, true, true, true, true, true, true, true, true, true, true, true, true, true, true, true, true, true, true, true, true, true, true, true, true, true, true, true, true, true, true, true, true, true, true, true, true, true, true, true, true, true, true, true, true, true, true, true, false] rfl rfl (by kernel_rfl) (fun _ _ _ h => h) (Or.inl ⟨by rfl, ?_⟩) hHeld ?_ ?_
    rotate_left
    · (intro w hSw; (try dsimp only at hSw); obtain ⟨s0, s1, s2⟩ := hSw; go_simp; (try with_reducible rfl))
    rotate_left
    · simp only [Act.put, List.setIfInBounds_toArray, List.set_cons_zero, List.set_cons_succ]
      rfl
    refine take1_ (i := 56) (v := ?_) (a' := ?_) (some 2) #[true, true, true, true, true, true, true, true, true, true, true, true, true, true, true, true, true, true, true, true, true, true, true, true, true, true, true, true, true, true, true, true, true, true, true, true, true, true, true, true, true, true, true, true, true, true, true, true, true, true, true, true, true, true, true, true, true] rfl rfl (by kernel_rfl) (fun _ _ _ h => h) (Or.inl ⟨by rfl, ?_⟩) hHeld ?_ ?_
    rotate_left
    · (intro w hSw; (try dsimp only at hSw); obtain ⟨s0, s1, s2⟩ := hSw; go_simp; (try with_reducible rfl))
    rotate_left
    · simp only [Act.put, List.setIfInBounds_toArray, List.set_cons_zero, List.set_cons_succ]
      rfl
    refine wpAnyH_done (by kernel_rfl) ?_ _
    go_wp2
    go_ret
    exact ⟨rfl, bnext hB5.drew k1⟩
set_option maxHeartbeats 1000000 in
set_option maxRecDepth 100000 in
theorem geomChecks_out (s g i : Int) (w : World) (h : gIn s g i = false) : Calls Try.prog 3 #[geomV s g i] w (RetT w true) := by
  have hbox := (Below.refl w.heap.size w).alloc (Nat.le_refl _) (.cells #[.int .i64 s, .int .i64 g, .int .i64 i] 23 (0, 0))
  have hA := at3_new w 23 s g i
  have hin := h
  simp only [gIn, decide_eq_false_iff_not] at hin
  have HIN := Lib.hid h
  have HNOT := Lib.hid hin
  clear h hin
  unfold geomV
  go_enter Try.func3, Try.ntmps3
  go_upto_region 4 with (first
    | (go_at_call 7; refine (awake04 _).mono ?_; rintro e w1 ⟨rfl, hb1⟩; have hA1 := At3.below hA hb1; have p1 := hA1.1; have p2 := hA1.2.1; have p3 := hA1.2.2)
    | (go_at_call 8; refine (own_any s g i _).mono ?_; rintro e w2 ⟨rfl, hb2⟩; unfold geomV; have hA2 := At3.below hA1 hb2; have p4 := hA2.1; have p5 := hA2.2.1; have p6 := hA2.2.2; have z2 : w.heap.size < w2.heap.size := Nat.lt_of_lt_of_le (Nat.lt_of_lt_of_le (by simp) hb1.size) hb2.size))
  have hn := HNOT.out
  have hcut : ∀ K : Prop, (s < 8 → K) → (8 ≤ s → 200 < s → K) → (8 ≤ s → s ≤ 200 → g < 1 → K) → (8 ≤ s → s ≤ 200 → 1 ≤ g → 32 < g → K) → (8 ≤ s → s ≤ 200 → 1 ≤ g → g ≤ 32 → i < 2 → K) → (8 ≤ s → s ≤ 200 → 1 ≤ g → g ≤ 32 → 2 ≤ i → 200 < i → K) → K := fun K a b c d e f => by
    by_cases x1 : s < 8
    · exact a x1
    · by_cases x2 : 200 < s
      · exact b (by omega) x2
      · by_cases x3 : g < 1
        · exact c (by omega) (by omega) x3
        · by_cases x4 : 32 < g
          · exact d (by omega) (by omega) (by omega) x4
          · by_cases x5 : i < 2
            · exact e (by omega) (by omega) (by omega) (by omega) x5
            · exact f (by omega) (by omega) (by omega) (by omega) (by omega) (by omega)
  clear hn
  refine hcut _ ?_ ?_ ?_ ?_ ?_ ?_ <;> clear hcut <;> intros
  all_goals
    go_wp2_with (go_at_call 9; refine (check_out s g i _ HIN.out).mono ?_; rintro e w4 ⟨rfl, hb4⟩)
    go_ret
    exact ⟨rfl, bnext ((bnext (bnext hbox hb1) hb2).alloc (Nat.le_of_lt z2) _) hb4⟩
theorem geomChecks_walk (s g i : Int) (w : World) : Calls Try.prog 3 #[geomV s g i] w (RetT w true) := by
  cases h : gIn s g i with
  | false => exact geomChecks_out s g i w h
  | true =>
    have hin := h
    simp only [gIn, decide_eq_true_eq] at hin
    obtain ⟨a, rfl⟩ := Int.eq_ofNat_of_zero_le (show 0 ≤ s by omega)
    obtain ⟨b, rfl⟩ := Int.eq_ofNat_of_zero_le (show 0 ≤ g by omega)
    obtain ⟨c, rfl⟩ := Int.eq_ofNat_of_zero_le (show 0 ≤ i by omega)
    exact geomChecks_in a b c w h
end Go.Proofs.Yteepgdfjbpfakaa
