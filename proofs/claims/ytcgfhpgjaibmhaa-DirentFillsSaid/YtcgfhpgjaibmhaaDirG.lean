/-
  Entries counted; the walk of DirentFinds.
-/
import Derived.Test.YtcgfhpgjaibmhaaDirF
import Derived.Test.YtcgfhpgjaibmhaaLaw06
namespace Go.Proofs.Ytcgfhpgjaibmhaa
open Go.RowKit
set_option linter.unusedVariables false
set_option linter.unusedSimpArgs false
/-- How many of the first j, of the last k, are none. -/
def cA (E : List Ent) : Nat → Nat
  | 0 => 0
  | j + 1 => cA E j + (if (eAt E j).1 == 0 then 0 else 1)
def cD (E : List Ent) : Nat → Nat
  | 0 => 0
  | k + 1 => cD E k + (if (eAt E (3 - k)).1 == 0 then 0 else 1)
def wgt (E : List Ent) (i : Nat) : Nat := if (eAt E i).1 == 0 then 0 else 1
theorem cA_cD (E : List Ent) : cA E 4 = cD E 4 := by
  show 0 + wgt E 0 + wgt E 1 + wgt E 2 + wgt E 3 = 0 + wgt E 3 + wgt E 2 + wgt E 1 + wgt E 0
  omega
theorem cA_le (E : List Ent) (j : Nat) : cA E j ≤ j := by
  induction j with
  | zero => simp [cA]
  | succ j ih => simp only [cA]; split <;> omega
theorem cD_le (E : List Ent) (j : Nat) : cD E j ≤ j := by
  induction j with
  | zero => simp [cD]
  | succ j ih => simp only [cD]; split <;> omega
set_option maxHeartbeats 2000000 in
set_option maxRecDepth 10000 in
theorem count_any (n0 n1 n2 n3 : Int) (s0 s1 s2 s3 : ByteArray) (w : World) :
    Calls Try.prog 14 #[entsV (n0, s0) (n1, s1) (n2, s2) (n3, s3)] w (RetN w (cA (entsL n0 n1 n2 n3 s0 s1 s2 s3) 4 : Nat)) := by
  have hb : Below w.heap.size w (w.alloc (.cells #[.int .i64 n0, .string s0, .int .i64 n1, .string s1, .int .i64 n2, .string s2, .int .i64 n3, .string s3] 31 (0, 0))) := (Below.refl _ _).alloc (Nat.le_refl _) _
  have HB0 := Lib.hid hb
  obtain ⟨E, hE⟩ : ∃ E, E = entsL n0 n1 n2 n3 s0 s1 s2 s3 := ⟨_, rfl⟩
  have HE := Lib.hid hE
  rw [← hE]
  clear hb hE
  unfold entsV
  go_enter Try.func14, Try.ntmps14
  go_wp2
  revert HB0
  generalize w.alloc (.cells #[.int .i64 n0, .string s0, .int .i64 n1, .string s1, .int .i64 n2, .string s2, .int .i64 n3, .string s3] 31 (0, 0)) = w1
  intro HB0
  go_loopw [3, 7] (fun c i wr => ∃ j : Nat, j ≤ 4 ∧ i = .int .i64 j ∧ c = .int .i64 (cA E j : Nat) ∧ Hid (Below w.heap.size w wr)) (fun _ i _ => (4 - intOf i).toNat)
  case atStart => exact ⟨0, by omega, by rfl, by rfl, HB0⟩
  case round =>
    obtain ⟨j, hj, rfl, rfl, HB⟩ := hrel
    by_cases hj4 : j = 4
    · subst hj4
      go_wp2
      go_ret
      exact ⟨rfl, HB.out⟩
    · have hjc : j = 0 ∨ j = 1 ∨ j = 2 ∨ j = 3 := by omega
      have hcl := cA_le E j
      rcases hjc with rfl | rfl | rfl | rfl
      · have hix : ∀ W : World, (Instr.index 31 (.agg #[.int .i64 n0, .string s0, .int .i64 n1, .string s1, .int .i64 n2, .string s2, .int .i64 n3, .string s3]) (.int .i64 0)).run Try.prog W = .ok (.agg #[.int .i64 n0, .string s0]) W := fun W => run_index_ent W _ 0 (by decide)
        have hn : (eAt E 0).1 = n0 := by rw [HE.out]; rfl
        have hc1 : cA E (0 + 1) = cA E 0 + (if n0 == 0 then 0 else 1) := by simp only [cA]; rw [hn]
        obtain ⟨c, hc⟩ : ∃ c, c = cA E 0 := ⟨_, rfl⟩
        rw [← hc] at hc1 hcl ⊢
        have HC1 := Lib.hid hc1
        have hb' := HB.out.alloc (HB.out.size) (.cells #[.int .i64 n0, .string s0] 30 (0, 0))
        have HB' := Lib.hid hb'
        clear hn hc1 hc hb'
        by_cases h0 : n0 = 0
        · have h0' : (n0 == 0) = true := by simpa using h0
          have h0'' : (n0 != 0) = false := by simpa using h0
          have HC2 : Hid (cA E (0 + 1) = c) := by unfold Hid; rw [HC1.out, h0']; rfl
          clear h0 h0'
          go_wp2
          exact ⟨⟨0 + 1, by omega, by rfl, by rw [HC2.out], HB'⟩, by simp [intOf]⟩
        · have h0' : (n0 == 0) = false := by simpa using h0
          have h0'' : (n0 != 0) = true := by simpa using h0
          have HC2 : Hid (cA E (0 + 1) = c + 1) := by unfold Hid; rw [HC1.out, h0']; rfl
          clear h0 h0'
          go_wp2
          exact ⟨⟨0 + 1, by omega, by rfl, by rw [HC2.out]; go_num, HB'⟩, by simp [intOf]⟩
      · have hix : ∀ W : World, (Instr.index 31 (.agg #[.int .i64 n0, .string s0, .int .i64 n1, .string s1, .int .i64 n2, .string s2, .int .i64 n3, .string s3]) (.int .i64 1)).run Try.prog W = .ok (.agg #[.int .i64 n1, .string s1]) W := fun W => run_index_ent W _ 1 (by decide)
        have hn : (eAt E 1).1 = n1 := by rw [HE.out]; rfl
        have hc1 : cA E (1 + 1) = cA E 1 + (if n1 == 0 then 0 else 1) := by simp only [cA]; rw [hn]
        obtain ⟨c, hc⟩ : ∃ c, c = cA E 1 := ⟨_, rfl⟩
        rw [← hc] at hc1 hcl ⊢
        have HC1 := Lib.hid hc1
        have hb' := HB.out.alloc (HB.out.size) (.cells #[.int .i64 n1, .string s1] 30 (0, 0))
        have HB' := Lib.hid hb'
        clear hn hc1 hc hb'
        by_cases h0 : n1 = 0
        · have h0' : (n1 == 0) = true := by simpa using h0
          have h0'' : (n1 != 0) = false := by simpa using h0
          have HC2 : Hid (cA E (1 + 1) = c) := by unfold Hid; rw [HC1.out, h0']; rfl
          clear h0 h0'
          go_wp2
          exact ⟨⟨1 + 1, by omega, by rfl, by rw [HC2.out], HB'⟩, by simp [intOf]⟩
        · have h0' : (n1 == 0) = false := by simpa using h0
          have h0'' : (n1 != 0) = true := by simpa using h0
          have HC2 : Hid (cA E (1 + 1) = c + 1) := by unfold Hid; rw [HC1.out, h0']; rfl
          clear h0 h0'
          go_wp2
          exact ⟨⟨1 + 1, by omega, by rfl, by rw [HC2.out]; go_num, HB'⟩, by simp [intOf]⟩
      · have hix : ∀ W : World, (Instr.index 31 (.agg #[.int .i64 n0, .string s0, .int .i64 n1, .string s1, .int .i64 n2, .string s2, .int .i64 n3, .string s3]) (.int .i64 2)).run Try.prog W = .ok (.agg #[.int .i64 n2, .string s2]) W := fun W => run_index_ent W _ 2 (by decide)
        have hn : (eAt E 2).1 = n2 := by rw [HE.out]; rfl
        have hc1 : cA E (2 + 1) = cA E 2 + (if n2 == 0 then 0 else 1) := by simp only [cA]; rw [hn]
        obtain ⟨c, hc⟩ : ∃ c, c = cA E 2 := ⟨_, rfl⟩
        rw [← hc] at hc1 hcl ⊢
        have HC1 := Lib.hid hc1
        have hb' := HB.out.alloc (HB.out.size) (.cells #[.int .i64 n2, .string s2] 30 (0, 0))
        have HB' := Lib.hid hb'
        clear hn hc1 hc hb'
        by_cases h0 : n2 = 0
        · have h0' : (n2 == 0) = true := by simpa using h0
          have h0'' : (n2 != 0) = false := by simpa using h0
          have HC2 : Hid (cA E (2 + 1) = c) := by unfold Hid; rw [HC1.out, h0']; rfl
          clear h0 h0'
          go_wp2
          exact ⟨⟨2 + 1, by omega, by rfl, by rw [HC2.out], HB'⟩, by simp [intOf]⟩
        · have h0' : (n2 == 0) = false := by simpa using h0
          have h0'' : (n2 != 0) = true := by simpa using h0
          have HC2 : Hid (cA E (2 + 1) = c + 1) := by unfold Hid; rw [HC1.out, h0']; rfl
          clear h0 h0'
          go_wp2
          exact ⟨⟨2 + 1, by omega, by rfl, by rw [HC2.out]; go_num, HB'⟩, by simp [intOf]⟩
      · have hix : ∀ W : World, (Instr.index 31 (.agg #[.int .i64 n0, .string s0, .int .i64 n1, .string s1, .int .i64 n2, .string s2, .int .i64 n3, .string s3]) (.int .i64 3)).run Try.prog W = .ok (.agg #[.int .i64 n3, .string s3]) W := fun W => run_index_ent W _ 3 (by decide)
        have hn : (eAt E 3).1 = n3 := by rw [HE.out]; rfl
        have hc1 : cA E (3 + 1) = cA E 3 + (if n3 == 0 then 0 else 1) := by simp only [cA]; rw [hn]
        obtain ⟨c, hc⟩ : ∃ c, c = cA E 3 := ⟨_, rfl⟩
        rw [← hc] at hc1 hcl ⊢
        have HC1 := Lib.hid hc1
        have hb' := HB.out.alloc (HB.out.size) (.cells #[.int .i64 n3, .string s3] 30 (0, 0))
        have HB' := Lib.hid hb'
        clear hn hc1 hc hb'
        by_cases h0 : n3 = 0
        · have h0' : (n3 == 0) = true := by simpa using h0
          have h0'' : (n3 != 0) = false := by simpa using h0
          have HC2 : Hid (cA E (3 + 1) = c) := by unfold Hid; rw [HC1.out, h0']; rfl
          clear h0 h0'
          go_wp2
          exact ⟨⟨3 + 1, by omega, by rfl, by rw [HC2.out], HB'⟩, by simp [intOf]⟩
        · have h0' : (n3 == 0) = false := by simpa using h0
          have h0'' : (n3 != 0) = true := by simpa using h0
          have HC2 : Hid (cA E (3 + 1) = c + 1) := by unfold Hid; rw [HC1.out, h0']; rfl
          clear h0 h0'
          go_wp2
          exact ⟨⟨3 + 1, by omega, by rfl, by rw [HC2.out]; go_num, HB'⟩, by simp [intOf]⟩
theorem ff_down (pr : Ent → Bool) (E : List Ent) (k : Nat) (hk : k < 4) : ff pr E (k + 1) = if pr (eAt E (3 - k)) then ((3 - k : Nat) : Int) else ff pr E k := rfl
theorem cD_down (E : List Ent) (k : Nat) : cD E (k + 1) = cD E k + (if (eAt E (3 - k)).1 == 0 then 0 else 1) := rfl
set_option maxHeartbeats 2000000 in
set_option maxRecDepth 10000 in
theorem direntFinds_walk (n0 n1 n2 n3 : Int) (s0 s1 s2 s3 t : ByteArray) (w : World) :
    Calls Try.prog 4 #[entsV (n0, s0) (n1, s1) (n2, s2) (n3, s3), .string t] w (RetT w true) := by
  have hg0 := heap_alloc_last w (.cells #[.int .i64 n0, .string s0, .int .i64 n1, .string s1, .int .i64 n2, .string s2, .int .i64 n3, .string s3] 29 (0, 0))
  have hb0 : Below w.heap.size w (w.alloc (.cells #[.int .i64 n0, .string s0, .int .i64 n1, .string s1, .int .i64 n2, .string s2, .int .i64 n3, .string s3] 29 (0, 0))) := (Below.refl _ _).alloc (Nat.le_refl _) _
  have HG0 := Lib.hid hg0
  have HB0 := Lib.hid hb0
  clear hg0 hb0
  have HOW := fun w' => Lib.hid (dirown_any n0 n1 n2 n3 s0 s1 s2 s3 w')
  have HFI := fun w' => Lib.hid (find_any n0 n1 n2 n3 s0 s1 s2 s3 t w')
  have HRO := fun w' => Lib.hid (room_any n0 n1 n2 n3 s0 s1 s2 s3 w')
  have HCO := fun w' => Lib.hid (count_any n0 n1 n2 n3 s0 s1 s2 s3 w')
  obtain ⟨E, hE⟩ : ∃ E, E = entsL n0 n1 n2 n3 s0 s1 s2 s3 := ⟨_, rfl⟩
  have HE := Lib.hid hE
  rw [← hE] at HFI HRO HCO
  have hFd := fun k hk => ff_down (prFind t) E k hk
  have hRd := fun k hk => ff_down prRoom E k hk
  have hCd := fun k => cD_down E k
  have HCC := Lib.hid (cA_cD E)
  have HCL := Lib.hid (cD_le E)
  obtain ⟨F, hF⟩ : ∃ F, F = ff (prFind t) E := ⟨_, rfl⟩
  obtain ⟨R, hR⟩ : ∃ R, R = ff prRoom E := ⟨_, rfl⟩
  have hF0 : F 0 = -1 := by rw [hF]; rfl
  have hR0 : R 0 = -1 := by rw [hR]; rfl
  rw [← hF] at HFI hFd
  rw [← hR] at HRO hRd
  have HFD := Lib.hid hFd
  have HRD := Lib.hid hRd
  have HCD := Lib.hid hCd
  have HF0 := Lib.hid hF0
  have HR0 := Lib.hid hR0
  clear hE hFd hRd hCd hF hR hF0 hR0
  unfold entsV at HOW HFI HRO HCO ⊢
  go_enter Try.func4, Try.ntmps4
  go_upto_region 4 with (go_at_call 8; go_must (refine (awake06 _).mono ?_; rintro e w1 ⟨rfl, hb1⟩))
  have HG1 := Lib.hid (heap_keep HG0.out hb1)
  have HB1 := Lib.hid (bnext HB0.out hb1)
  clear hb1 HG0 HB0
  have hEA : EntsAt w1 w.heap.size E := by rw [HE.out]; exact entsAt_row HG1.out
  have HEA := Lib.hid hEA
  clear hEA
  go_wp2
  go_loop [5, 6, 7, 8] (fun f r c i => ∃ k : Nat, k ≤ 4 ∧ i = .int .i64 (3 - (k : Int)) ∧ f = .int .i64 (F k) ∧ r = .int .i64 (R k) ∧ c = .int .i64 (cD E k : Nat)) (fun _ _ _ i => (intOf i + 1).toNat)
  case atStart => exact ⟨0, by omega, by rfl, by rw [HF0.out], by rw [HR0.out], by rfl⟩
  case round =>
    obtain ⟨k, hk, rfl, rfl, rfl, rfl⟩ := hrel
    by_cases hk4 : k < 4
    · obtain ⟨j, hj⟩ : ∃ j, j = 3 - k := ⟨_, rfl⟩
      have hji : (3 : Int) - (k : Int) = (j : Int) := by omega
      have hj3 : j < 4 := by omega
      obtain ⟨c0, c1⟩ := HEA.out j hj3
      have hf1 := HFD.out k hk4
      have hr1 := HRD.out k hk4
      have hc1 := HCD.out k
      rw [← hj] at hf1 hr1 hc1
      obtain ⟨n, hn⟩ : ∃ n, n = (eAt E j).1 := ⟨_, rfl⟩
      obtain ⟨s, hs⟩ : ∃ s, s = (eAt E j).2 := ⟨_, rfl⟩
      have hp1 : prFind t (eAt E j) = prFind t (n, s) := by rw [hn, hs]
      have hp2 : prRoom (eAt E j) = (n == 0) := by rw [hn]; rfl
      rw [hp1] at hf1
      rw [hp2] at hr1
      rw [← hn] at c0 hc1
      rw [← hs] at c1
      have hcl := HCL.out k
      obtain ⟨fv, hfv⟩ : ∃ fv, fv = F k := ⟨_, rfl⟩
      obtain ⟨rv, hrv⟩ : ∃ rv, rv = R k := ⟨_, rfl⟩
      obtain ⟨cv, hcv⟩ : ∃ cv, cv = cD E k := ⟨_, rfl⟩
      rw [← hfv] at hf1 ⊢
      rw [← hrv] at hr1 ⊢
      rw [← hcv] at hc1 hcl ⊢
      rw [hji]
      obtain ⟨q, hq⟩ : ∃ q, q = (s.toList == t.toList) := ⟨_, rfl⟩
      have hpr : prFind t (n, s) = (!(n == 0) && q) := by unfold prFind; rw [hq]
      rw [hpr] at hf1
      have HF1 := Lib.hid hf1
      have HR1 := Lib.hid hr1
      have HC1 := Lib.hid hc1
      have HJ := Lib.hid hj
      have HQ := Lib.hid hq
      clear hf1 hr1 hc1 hn hs hp1 hp2 hfv hrv hcv hj hpr hq hji
      by_cases h0 : n = 0
      · have h0' : (n == 0) = true := by simpa using h0
        clear h0
        go_wp2
        refine ⟨⟨k + 1, by omega, ?_, ?_, ?_, ?_⟩, by simp [intOf] <;> omega⟩
        · have := HJ.out; congr 1; omega
        · rw [HF1.out, h0']; rfl
        · rw [HR1.out, if_pos h0']
        · rw [HC1.out, if_pos h0']; rfl
      · have h0' : (n == 0) = false := by simpa using h0
        clear h0
        go_wp2
        · have hqt : (s.toList == t.toList) = true := by assumption
          refine ⟨⟨k + 1, by omega, ?_, ?_, ?_, ?_⟩, by simp [intOf] <;> omega⟩
          · have := HJ.out; congr 1; omega
          · rw [HF1.out, h0', HQ.out, hqt]; rfl
          · rw [HR1.out, if_neg (by rw [h0']; simp)]
          · rw [HC1.out, if_neg (by rw [h0']; simp)]; go_num
        · have hqt : (s.toList == t.toList) = false := by assumption
          refine ⟨⟨k + 1, by omega, ?_, ?_, ?_, ?_⟩, by simp [intOf] <;> omega⟩
          · have := HJ.out; congr 1; omega
          · rw [HF1.out, h0', HQ.out, hqt]; rfl
          · rw [HR1.out, if_neg (by rw [h0']; simp)]
          · rw [HC1.out, if_neg (by rw [h0']; simp)]; go_num
    · obtain rfl : k = 4 := by omega
      have hsz : (Try.prog.info? 29).map (·.size) = some 8 := by kernel_rfl
      go_upto_region 13 with (first
        | (refine wpList_load_row rfl 29 (.tmp 2) rfl w.heap.size rfl _ _ _ _ HG1.out Try.underlying29 rfl hsz ?_)
        | (go_at_call 11; go_must (refine (HOW _).out.mono ?_; rintro e w2 ⟨rfl, hb2⟩; have HB2 := Lib.hid (bnext HB1.out hb2); clear hb2)))
      have hg3 := heap_alloc_last w2 (.cells #[.int .i64 n0, .string s0, .int .i64 n1, .string s1, .int .i64 n2, .string s2, .int .i64 n3, .string s3] 31 (0, 0))
      have hb3 := HB2.out.alloc HB2.out.size (.cells #[.int .i64 n0, .string s0, .int .i64 n1, .string s1, .int .i64 n2, .string s2, .int .i64 n3, .string s3] 31 (0, 0))
      revert hg3 hb3
      generalize w2.alloc (.cells #[.int .i64 n0, .string s0, .int .i64 n1, .string s1, .int .i64 n2, .string s2, .int .i64 n3, .string s3] 31 (0, 0)) = w3
      generalize w2.heap.size = p9
      intro hg3 hb3
      have HG3 := Lib.hid hg3
      have HB3 := Lib.hid hb3
      obtain ⟨c4, hc4⟩ : ∃ c4, c4 = cD E 4 := ⟨_, rfl⟩
      rw [HCC.out, ← hc4] at HCO
      rw [← hc4]
      clear hg3 hb3 hc4 hsz
      go_wp2_with (first
        | (refine wpList_load_row rfl 31 (.tmp 9) rfl p9 rfl _ _ _ _ HG3.out Try.underlying31 rfl size_ents ?_)
        | (go_at_call 12; go_must (refine (HFI _).out.mono ?_; rintro e w4 ⟨rfl, hb4⟩; have HG4 := Lib.hid (heap_keep HG3.out hb4); have HB4 := Lib.hid (bnext HB3.out hb4); clear hb4))
        | (refine wpList_load_row_g rfl 31 (.tmp 9) rfl p9 rfl _ _ _ _ HG4.out Try.underlying31 rfl size_ents ?_)
        | (go_at_call 13; go_must (refine (HRO _).out.mono ?_; rintro e w5 ⟨rfl, hb5⟩; have HG5 := Lib.hid (heap_keep HG4.out hb5); have HB5 := Lib.hid (bnext HB4.out hb5); clear hb5))
        | (refine wpList_load_row_g rfl 31 (.tmp 9) rfl p9 rfl _ _ _ _ HG5.out Try.underlying31 rfl size_ents ?_)
        | (go_at_call 14; go_must (refine (HCO _).out.mono ?_; rintro e w6 ⟨rfl, hb6⟩; have HB6 := Lib.hid (bnext HB5.out hb6); clear hb6)))
      go_ret
      exact ⟨by simp, HB6.out⟩
end Go.Proofs.Ytcgfhpgjaibmhaa
