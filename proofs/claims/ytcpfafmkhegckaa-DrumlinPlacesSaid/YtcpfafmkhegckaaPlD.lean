/-
  Where: which block a sector is.
-/
import Derived.Test.YtcpfafmkhegckaaGeomC
import Derived.Test.YtcpfafmkhegckaaReg
namespace Go.Proofs.Ytcpfafmkhegckaa
open Go.RowKit
set_option linter.unusedVariables false
set_option linter.unusedSimpArgs false
/-- Is a sector a block of a group? -/
def whOk (s g i a : Nat) : Bool := decide (gFirst s i ≤ a ∧ a < gSectors s g i ∧ (a - gFirst s i) % 9 ≠ 0)
def whV (s g i a : Nat) : Value := if whOk s g i a then .tuple #[.int .i64 (((a - gFirst s i) / 9 / g : Nat) : Int), .int .i64 (((a - gFirst s i) / 9 % g : Nat) : Int), .int .i64 (((a - gFirst s i) % 9 - 1 : Nat) : Int), .bool true] else .tuple #[.int .i64 0, .int .i64 0, .int .i64 0, .bool false]
set_option maxRecDepth 10000 in
set_option maxHeartbeats 4000000 in
theorem where_any (s g i a : Nat) (w : World) (hs : s ≤ 1000) (hg1 : 1 ≤ g) (hg : g ≤ 1000) (hi : i ≤ 1000) (ha : a ≤ 100000000) :
    Calls Try.prog 14 #[geomV s g i, .int .i64 (a : Int)] w fun e w' => e = .returned (whV s g i a) ∧ Below w.heap.size w w' := by
  have h1 := gHead_le s i hs hi
  have h2 : s * g ≤ 1000 * 1000 := Nat.mul_le_mul hs hg
  have hF1 : gFirst s i ≤ 10000 := by unfold gFirst; omega
  have hT1 : gSectors s g i ≤ 100000000 := by unfold gSectors; omega
  have hFI := fun W => first_any (g : Int) s i W hs hi
  have hSE := fun W => sectors_any s g i W hs hg hi
  obtain ⟨V, hV⟩ : ∃ V, whV s g i a = V := ⟨_, rfl⟩
  rw [hV]
  unfold whV whOk at hV
  obtain ⟨F, hF⟩ : ∃ F, gFirst s i = F := ⟨_, rfl⟩
  obtain ⟨T, hT⟩ : ∃ T, gSectors s g i = T := ⟨_, rfl⟩
  rw [hF] at hF1
  rw [hT] at hT1
  simp only [hF] at hFI
  simp only [hT] at hSE
  simp only [hF, hT] at hV
  have HV := Lib.hid hV
  unfold geomV at hFI hSE ⊢
  have HFI := fun W => Lib.hid (hFI W)
  have HSE := fun W => Lib.hid (hSE W)
  obtain ⟨q, hq⟩ : ∃ q, (decide ((F : Int) ≤ (a : Int)) && decide ((a : Int) ≤ (T : Int) - 1)) = q := ⟨_, rfl⟩
  have E1 := Lib.hid hq
  have HB1 := Lib.hid ((Below.refl w.heap.size w).alloc (Nat.le_refl _) (.cells #[.int .i64 (s : Int), .int .i64 (g : Int), .int .i64 (i : Int)] 26 (0, 0)))
  have HA3 := Lib.hid (at3_new w 26 (s : Int) (g : Int) (i : Int))
  clear h1 h2 hF hT hFI hSE hq hV
  go_enter Try.func14, Try.ntmps14
  go_upto_region 1 with fail
  revert HB1 HA3
  generalize w.alloc (.cells #[.int .i64 (s : Int), .int .i64 (g : Int), .int .i64 (i : Int)] 26 (0, 0)) = w1
  intro HB1 HA3
  have hvt : IntKind.i64.wrap ((T : Int) - 1) = (T : Int) - 1 := IntWalk.i64_in _ (by omega)
  refine wp_region_held_drew (S := (fun w' => At3 w.heap.size s g i w' ∧ Below w.heap.size w w')) (by kernel_rfl) (by exact ⟨HA3.out, HB1.out.drew⟩) (fun hHeld => ?_)
  refine take1_ (i := 0) (v := ?_) (a' := ?_) (some 9) #[true, false, false, false, false, false, false, false] rfl rfl (by kernel_rfl) (fun _ _ _ h => h) (Or.inl ⟨by rfl, ?_⟩) hHeld ?_ ?_
  rotate_left
  · (intro w hSw; (try dsimp only at hSw); obtain ⟨⟨c0, c1, c2⟩, cB⟩ := hSw; go_simp; (try with_reducible rfl))
  rotate_left
  · simp only [Act.put, List.setIfInBounds_toArray, List.set_cons_zero, List.set_cons_succ]
    rfl
  refine take1_ (i := 1) (v := ?_) (a' := ?_) (some 10) #[true, true, false, false, false, false, false, false] rfl rfl (by kernel_rfl) (fun _ _ _ h => h) (Or.inl ⟨by rfl, ?_⟩) hHeld ?_ ?_
  rotate_left
  · (intro w hSw; (try dsimp only at hSw); obtain ⟨⟨c0, c1, c2⟩, cB⟩ := hSw; go_simp; (try with_reducible rfl))
  rotate_left
  · simp only [Act.put, List.setIfInBounds_toArray, List.set_cons_zero, List.set_cons_succ]
    rfl
  refine take1_ (i := 3) (v := ?_) (a' := ?_) (some 12) #[true, true, false, true, false, false, false, false] rfl rfl (by kernel_rfl) (fun _ _ _ h => h) (Or.inl ⟨by rfl, ?_⟩) hHeld ?_ ?_
  rotate_left
  · (intro w hSw; (try dsimp only at hSw); obtain ⟨⟨c0, c1, c2⟩, cB⟩ := hSw; go_simp; (try with_reducible rfl))
  rotate_left
  · simp only [Act.put, List.setIfInBounds_toArray, List.set_cons_zero, List.set_cons_succ]
    rfl
  refine loud1_ (i := 2) (some 11) #[true, true, true, true, false, false, false, false] rfl rfl (by kernel_rfl) (fun K hK => ?_)
  go_simp
  (go_at_call 47; refine (HFI _).out.mono ?_; rintro e w2 ⟨rfl, hb2⟩; have hnx : At3 w.heap.size s g i w2 ∧ Below w.heap.size w w2 := ⟨hHeld.1.below hb2, bnext hHeld.2 hb2⟩)
  refine hK.out _ _ (by exact hnx) (fun hHeld' => ?_)
  clear hK K hHeld
  have hHeld := hHeld'
  clear hHeld'
  try simp only [Act.put, List.setIfInBounds_toArray, List.set_cons_zero, List.set_cons_succ]
  refine loud1_ (i := 4) (some 13) #[true, true, true, true, true, false, false, false] rfl rfl (by kernel_rfl) (fun K hK => ?_)
  go_simp
  (go_at_call 6; refine (HSE _).out.mono ?_; rintro e w3 ⟨rfl, hb3⟩; have hnx : At3 w.heap.size s g i w3 ∧ Below w.heap.size w w3 := ⟨hHeld.1.below hb3, bnext hHeld.2 hb3⟩)
  refine hK.out _ _ (by exact hnx) (fun hHeld' => ?_)
  clear hK K hHeld
  have hHeld := hHeld'
  clear hHeld'
  try simp only [Act.put, List.setIfInBounds_toArray, List.set_cons_zero, List.set_cons_succ]
  refine take1_ (i := 5) (v := ?_) (a' := ?_) (some 14) #[true, true, true, true, true, true, false, false] rfl rfl (by kernel_rfl) (fun _ _ _ h => h) (Or.inl ⟨by rfl, ?_⟩) hHeld ?_ ?_
  rotate_left
  · (intro w hSw; (try dsimp only at hSw); obtain ⟨⟨c0, c1, c2⟩, cB⟩ := hSw; go_simp; (try with_reducible rfl))
  rotate_left
  · simp only [Act.put, List.setIfInBounds_toArray, List.set_cons_zero, List.set_cons_succ]
    rfl
  refine loud1_ (i := 6) (some 15) #[true, true, true, true, true, true, true, false] rfl rfl (by kernel_rfl) (fun K hK => ?_)
  go_simp
  (go_at_call 56; refine (among_any _ _ _ _).mono ?_; rintro e w4 ⟨rfl, rfl⟩; rw [E1.out]; have hnx := hHeld)
  refine hK.out _ _ (by exact hnx) (fun hHeld' => ?_)
  clear hK K hHeld
  have hHeld := hHeld'
  clear hHeld'
  try simp only [Act.put, List.setIfInBounds_toArray, List.set_cons_zero, List.set_cons_succ]
  refine take1_ (i := 7) (v := ?_) (a' := ?_) (some 16) #[true, true, true, true, true, true, true, true] rfl rfl (by kernel_rfl) (fun _ _ _ h => h) (Or.inl ⟨by rfl, ?_⟩) hHeld ?_ ?_
  rotate_left
  · (intro w hSw; (try dsimp only at hSw); obtain ⟨⟨c0, c1, c2⟩, cB⟩ := hSw; go_simp; (try with_reducible rfl))
  rotate_left
  · simp only [Act.put, List.setIfInBounds_toArray, List.set_cons_zero, List.set_cons_succ]
    rfl
  refine wpAnyH_done (by kernel_rfl) ?_ _
  have hA := hHeld.1
  have HB3 := Lib.hid hHeld.2
  clear hHeld hnx HA3 HB1 HSE
  cases q with
  | false =>
    have hno : decide (F ≤ a ∧ a < T ∧ (a - F) % 9 ≠ 0) = false := by
      have h := E1.out
      rw [decide_eq_false_iff_not]
      intro ⟨x1, x2, _⟩
      rw [decide_eq_true (show (F : Int) ≤ (a : Int) by omega), decide_eq_true (show (a : Int) ≤ (T : Int) - 1 by omega)] at h
      cases h
    clear hA
    go_wp2
    refine bodyPost_ret (v := .tuple #[.int .i64 0, .int .i64 0, .int .i64 0, .bool false]) ?_ rfl ⟨by rw [← HV.out, hno]; rfl, HB3.out⟩
    simp [results, Try.results14, Sem.run_bind, Sem.run_pure, Result.andThen]
  | true =>
    have hin : F ≤ a ∧ a < T := by
      have h := E1.out
      rw [Bool.and_eq_true, decide_eq_true_iff, decide_eq_true_iff] at h
      omega
    obtain ⟨n, rfl⟩ : ∃ n, a = F + n := ⟨a - F, by omega⟩
    have hsub : (F : Int) + (n : Int) - (F : Int) = (n : Int) := by omega
    have hnw : IntKind.i64.wrap (n : Int) = (n : Int) := IntWalk.i64_in _ (by omega)
    have HAA := Lib.hid hA
    have hc0 := hA.1
    have hc1 := hA.2.1
    have hc2 := hA.2.2
    have n9 : ((n : Int)).tdiv 9 = ((n / 9 : Nat) : Int) := rfl
    have m9 : ((n : Int)).tmod 9 = ((n % 9 : Nat) : Int) := rfl
    have HIN := Lib.hid hin
    clear hA hin
    go_upto_region 4 with (first
      | (go_at_call 47; refine (HFI _).out.mono ?_; rintro e w5 ⟨rfl, hb5⟩; have HA5 := Lib.hid (HAA.out.below hb5); have HB5 := Lib.hid (bnext HB3.out hb5); clear hb5))
    by_cases hm : n % 9 = 0
    · have hno : decide (F ≤ F + n ∧ F + n < T ∧ (F + n - F) % 9 ≠ 0) = false := by rw [Nat.add_sub_cancel_left]; simp [hm]
      go_upto_region 5 with fail
      go_wp2
      refine bodyPost_ret (v := .tuple #[.int .i64 0, .int .i64 0, .int .i64 0, .bool false]) ?_ rfl ⟨by rw [← HV.out, hno]; rfl, HB5.out⟩
      simp [results, Try.results14, Sem.run_bind, Sem.run_pure, Result.andThen]
    · have hyes : decide (F ≤ F + n ∧ F + n < T ∧ (F + n - F) % 9 ≠ 0) = true := by rw [Nat.add_sub_cancel_left]; simp [hm]; have := HIN.out; omega
      have hm0 : ¬ ((n : Int) % 9 - 1 < 0) := by omega
      have hg0 : ¬ (g : Int) = 0 := by omega
      have hgz : ¬ g = 0 := by omega
      have c1 := HA5.out.2.1
      go_upto_region 7 with fail
      go_quiet (fail)
      rename_i nq
      go_wp2
      refine bodyPost_ret (v := .tuple #[.int .i64 ((n : Int) / 9 / (g : Int)), .int .i64 ((n : Int) / 9 % (g : Int)), .int .i64 ((n : Int) % 9 - 1), .bool true]) ?_ rfl ⟨?_, bdrewN HB5.out nq⟩
      · simp [results, Try.results14, Sem.run_bind, Sem.run_pure, Result.andThen]
      · rw [← HV.out, hyes, if_pos rfl, Nat.add_sub_cancel_left]
        have e3 : ((n % 9 - 1 : Nat) : Int) = (n : Int) % 9 - 1 := by omega
        rw [e3]
        simp
end Go.Proofs.Ytcpfafmkhegckaa
