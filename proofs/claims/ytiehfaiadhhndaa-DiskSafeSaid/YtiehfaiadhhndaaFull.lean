/-
  A sector of bytes: the reference's Full.
-/
import Derived.Test.YtiehfaiadhhndaaSec
namespace Go.Proofs.Ytiehfaiadhhndaa
open Go.RowKit
set_option linter.unusedVariables false
set_option linter.unusedSimpArgs false
theorem bvs_set (l : List UInt8) (i : Nat) (x : UInt8) : (bvs l).set i (bval x) = bvs (l.set i x) := by simp [bvs, List.map_set]
/-- What Full hands back. -/
def full (l : List UInt8) : List UInt8 := (l.take 128) ++ List.replicate (128 - l.length) 0
theorem full_length (l : List UInt8) : (full l).length = 128 := by simp [full]; omega
def fulls (l : List UInt8) (j : Nat) : List UInt8 := (l.take j) ++ List.replicate (128 - j) 0
theorem fulls_zero (l : List UInt8) : fulls l 0 = List.replicate 128 0 := by simp [fulls]
theorem fulls_length (l : List UInt8) (j : Nat) (h : j ≤ l.length) (h2 : j ≤ 128) : (fulls l j).length = 128 := by simp [fulls]; omega
theorem fulls_end (l : List UInt8) (j : Nat) (h : j ≤ l.length) (h2 : j ≤ 128) (h3 : j = l.length ∨ j = 128) : fulls l j = full l := by
  unfold fulls full
  rcases h3 with rfl | rfl
  · rw [List.take_of_length_le (Nat.le_refl _), List.take_of_length_le h2]
  · rw [show 128 - l.length = 0 by omega]
theorem fulls_succ (l : List UInt8) (j : Nat) (h : j < l.length) (h2 : j < 128) : (fulls l j).set j (l.getD j 0) = fulls l (j + 1) := by
  unfold fulls
  have e : (l.take j).length = j := by simp; omega
  rw [List.set_append_right _ _ (by omega), e, Nat.sub_self, show 128 - j = (128 - (j + 1)) + 1 by omega, List.replicate_succ, List.set_cons_zero, List.take_succ_eq_append_getElem h, List.getD_eq_getElem?_getD, List.getElem?_eq_getElem h, List.append_assoc]
  rfl
set_option maxHeartbeats 1000000 in
set_option maxRecDepth 10000 in
theorem full_any' (v : Value) (l : List UInt8) (w : World) (hn : l.length ≤ 9223372036854775807) (hv : Byt w v l) :
    Calls Try.prog 21 #[v] w fun e w' => e = .returned (secV (full l)) ∧ Below w.heap.size w w' := by
  have hz := zero_arr
  obtain ⟨sp, c, rfl, hsp⟩ : ∃ sp c, v = .slice sp l.length c ∧ (0 < l.length → ∃ b o, sp = some ⟨b, o, none⟩ ∧ RdB w b o l) := by
    rcases hv with ⟨rfl, A, c, rfl, _⟩ | ⟨b, o, c, rfl, _, _, hr⟩
    · exact ⟨A, c, rfl, fun h => by simp at h⟩
    · exact ⟨_, c, rfl, fun _ => ⟨b, o, rfl, hr⟩⟩
  have HSP := Lib.hid hsp
  have HN := Lib.hid hn
  clear hsp hv hn
  go_enter Try.func21, Try.ntmps21
  go_wp2
  clear hz
  have hb0 : Below (w.heap.size + 1) (w.alloc (.cells zArr 30 (0, 0))) ((w.alloc (.cells zArr 30 (0, 0))).alloc (.cells zArr 30 (0, 0))) := (Below.refl _ _).alloc (by simp) _
  have hg0 : ((w.alloc (.cells zArr 30 (0, 0))).alloc (.cells zArr 30 (0, 0))).heap[w.heap.size + 1]? = some (.cells zArr 30 (0, 0)) := by
    have := heap_alloc_last (w.alloc (.cells zArr 30 (0, 0))) (.cells zArr 30 (0, 0)); simpa using this
  have hw1 : Below w.heap.size w (w.alloc (.cells zArr 30 (0, 0))) := (Below.refl _ _).alloc (Nat.le_refl _) _
  have ht0 : (w.alloc (.cells zArr 30 (0, 0))).heap[w.heap.size]? = some (.cells zArr 30 (0, 0)) := heap_alloc_last _ _
  have hs1 : (w.alloc (.cells zArr 30 (0, 0))).heap.size = w.heap.size + 1 := by simp
  obtain ⟨w1, hw1e⟩ : ∃ w1, w1 = w.alloc (.cells zArr 30 (0, 0)) := ⟨_, rfl⟩
  rw [← hw1e] at hb0 hg0 hw1 ht0 hs1 ⊢
  clear hw1e
  have HW1 := Lib.hid hw1
  have HT0 := Lib.hid ht0
  have HS1 := Lib.hid hs1
  clear hw1 ht0 hs1
  go_loopw [4] (fun i wr => ∃ j : Nat, j ≤ l.length ∧ j ≤ 128 ∧ i = .int .i64 j ∧ Hid (wr.heap[w.heap.size + 1]? = some (.cells (bvs (fulls l j)).toArray 30 (0, 0))) ∧ Hid (Below (w.heap.size + 1) w1 wr)) (fun i _ => (128 - intOf i).toNat)
  case atStart => exact ⟨0, by omega, by omega, by rfl, by rw [fulls_zero]; exact Lib.hid hg0, Lib.hid hb0⟩
  case round =>
    obtain ⟨j, hj, hj2, rfl, HG, HB⟩ := hrel
    by_cases hlt : j < l.length
    · obtain ⟨b, o, rfl, hr⟩ := HSP.out (by omega)
      by_cases h128 : j < 128
      · have hrc := (hr.below (HW1.out)) j hlt
        have hcell : wr.cell? ⟨b, o + j, none⟩ = some (.int .u8 ((l.getD j 0).toNat : Int)) := by
          rw [HB.out.cell (p := ⟨b, o + j, none⟩) (by have := World.block_lt_of_cell? w _ (hr j hlt); show b < _; have h2 : b < w.heap.size := this; omega)]; exact hrc
        have hc1 : ∃ v, wr.cell? ⟨w.heap.size + 1, j, none⟩ = some v := by
          rw [cell_row HG.out]
          exact ⟨_, Array.getElem?_eq_getElem (by simp [fulls_length l j hj hj2]; omega)⟩
        have hc2 : wr.frozen? ⟨w.heap.size + 1, j, none⟩ = false := free_row HG.out _
        obtain ⟨v1, hc1⟩ := hc1
        have hstep : wr.setCell ⟨w.heap.size + 1, j, none⟩ (.int .u8 ((l.getD j 0).toNat : Int)) = wr.setRow (w.heap.size + 1) (bvs (fulls l (j + 1))).toArray := by
          rw [setCell_row HG.out, List.setIfInBounds_toArray]
          have := bvs_set (fulls l j) j (l.getD j 0)
          rw [fulls_succ l j hlt h128] at this
          rw [← this]; rfl
        have HS := Lib.hid hstep
        have hz1 : (0 : Int) ≤ (j : Int) := by omega
        have hz2 : (j : Int) < 128 := by omega
        clear hstep hrc hr
        obtain ⟨x, hx⟩ : ∃ x, x = l.getD j 0 := ⟨_, rfl⟩
        rw [← hx] at hcell HS
        clear hx
        go_wp2
        rw [HS.out]
        refine ⟨⟨j + 1, by omega, by omega, by go_num, Lib.hid (setRow_heap wr _ _ _ _ _ HG.out), Lib.hid ?_⟩, by simp [intOf]; omega⟩
        exact HB.out.trans ⟨rfl, rfl, rfl, by rw [setRow_size]; exact Nat.le_refl _, fun k hk => setRow_other wr _ _ _ (by omega)⟩
      · go_wp2_with (first
          | (refine wpList_load_row rfl 30 (.tmp 3) rfl (w.heap.size + 1) rfl _ _ _ _ HG.out Try.underlying30 rfl (by rw [secV_size, fulls_length l j hj hj2]; exact size_arr) ?_)
          | (refine wpList_store_row rfl 30 (.tmp 2) (.tmp 21) rfl w.heap.size zArr _ 30 rfl rfl ((HB.out.block _ (by omega)).trans HT0.out) (by rw [secV_size, fulls_length l j hj hj2]; exact size_arr) (by rw [secV_size, fulls_length l j hj hj2, zArr_size]) (sec_one _) ?_))
        have hf := fulls_end l j hj hj2 (by omega)
        rw [hf]
        have hbl := HB.out
        have hld := run_loadVar_row (P := Try.prog) (wr.setRow w.heap.size (bvs (full l)).toArray) w.heap.size 30 30 (bvs (full l)).toArray (0, 0) _ (setRow_heap wr _ _ _ _ _ ((HB.out.block _ (by omega)).trans HT0.out)) Try.underlying30 (by simp) (by rw [secV_size, full_length]; exact size_arr)
        refine bodyPost_ret (v := secV (full l)) (results_cell1 Try.results21 rfl hld) rfl ⟨rfl, ?_⟩
        have h1 := HW1.out.trans (HB.out.mono (Nat.le_succ _))
        exact h1.trans ⟨rfl, rfl, rfl, by rw [setRow_size]; exact Nat.le_refl _, fun k hk => setRow_other wr _ _ _ (by omega)⟩
    · go_wp2_with (first
        | (refine wpList_load_row rfl 30 (.tmp 3) rfl (w.heap.size + 1) rfl _ _ _ _ HG.out Try.underlying30 rfl (by rw [secV_size, fulls_length l j hj hj2]; exact size_arr) ?_)
        | (refine wpList_store_row rfl 30 (.tmp 2) (.tmp 21) rfl w.heap.size zArr _ 30 rfl rfl ((HB.out.block _ (by omega)).trans HT0.out) (by rw [secV_size, fulls_length l j hj hj2]; exact size_arr) (by rw [secV_size, fulls_length l j hj hj2, zArr_size]) (sec_one _) ?_))
      have hf := fulls_end l j hj hj2 (by omega)
      rw [hf]
      have hbl := HB.out
      have hld := run_loadVar_row (P := Try.prog) (wr.setRow w.heap.size (bvs (full l)).toArray) w.heap.size 30 30 (bvs (full l)).toArray (0, 0) _ (setRow_heap wr _ _ _ _ _ ((HB.out.block _ (by omega)).trans HT0.out)) Try.underlying30 (by simp) (by rw [secV_size, full_length]; exact size_arr)
      refine bodyPost_ret (v := secV (full l)) (results_cell1 Try.results21 rfl hld) rfl ⟨rfl, ?_⟩
      have h1 := HW1.out.trans (HB.out.mono (Nat.le_succ _))
      exact h1.trans ⟨rfl, rfl, rfl, by rw [setRow_size]; exact Nat.le_refl _, fun k hk => setRow_other wr _ _ _ (by omega)⟩
theorem full_any (v : Value) (l : List UInt8) (w : World) (hn : l.length ≤ 140737488355328) (hv : Byt w v l) :
    Calls Try.prog 21 #[v] w fun e w' => e = .returned (secV (full l)) ∧ Below w.heap.size w w' := full_any' v l w (by omega) hv
end Go.Proofs.Ytiehfaiadhhndaa
