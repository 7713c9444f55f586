/-
  Codec: the fixed fact of the laws.
-/
import Derived.Test.YtlcbfpcabalgcaaCodP
namespace Go.Proofs.Ytlcbfpcabalgcaa
open Go.RowKit
set_option linter.unusedVariables false
set_option linter.unusedSimpArgs false
set_option linter.unnecessarySimpa false
def x0 : Ino := ⟨3, 9, 1, 300, 0, [0, 0, 0, 0, 0, 0, 0, 0], 77, 0⟩
theorem i64_small (n : Int) (h : -1000 ≤ n ∧ n ≤ 1000) : I64 n := ⟨by omega, by omega⟩
theorem x0_ok : x0.Ok := by
  refine ⟨by decide, by decide, i64_small _ (by decide), i64_small _ (by decide), by decide, rfl, fun d hd => ?_, i64_small _ (by decide), i64_small _ (by decide)⟩
  simp [x0] at hd
  subst hd
  exact i64_small _ (by decide)
theorem zIno_ok : zIno.Ok := by
  refine ⟨by decide, by decide, i64_small _ (by decide), i64_small _ (by decide), by decide, rfl, fun d hd => ?_, i64_small _ (by decide), i64_small _ (by decide)⟩
  have : d = 0 := by simp [zIno, rds] at hd; exact hd
  subst this
  exact i64_small _ (by decide)
def S0 : List UInt8 := wrS 2 true (fB (inoL x0))
theorem x0_fit : fBad (inoL x0) = false := by decide
theorem x0_len : mayB 2 (fB (inoL x0)) = true := (mayB_iff _ _).2 ⟨by decide, by rw [fBad_inoL_len x0 x0_ok]; decide⟩
set_option maxRecDepth 10000 in
set_option maxHeartbeats 8000000 in
theorem awake05 (w : World) : Calls Try.prog 10 #[] w fun e w' => e = .returned (.bool true) ∧ Below w.heap.size w w' := by
  have HW : ∀ w', Hid (Calls Try.prog 11 #[.agg #[.int .u32 3, .int .u32 9, .int .i64 1, .int .i64 300, .int .u32 0, .int .i64 0, .int .i64 0, .int .i64 0, .int .i64 0, .int .i64 0, .int .i64 0, .int .i64 0, .int .i64 0, .int .i64 77, .int .i64 0]] w' fun e w'' => e = .returned (.tuple #[.agg (bvs S0).toArray, .int .i64 0]) ∧ Below w'.heap.size w' w'') := fun w' => Lib.hid ((writeInode_any x0 w' x0_ok).mono fun e w'' h => by
    have h1 := h.1
    rw [x0_fit, show (inoMay x0.kind && !false) = true from rfl] at h1
    refine ⟨?_, h.2⟩
    rw [h1, wrE, if_pos rfl, makeE_ok, x0_len]
    rfl)
  have HZ : ∀ w', Hid (Calls Try.prog 11 #[.agg #[.int .u32 0, .int .u32 0, .int .i64 0, .int .i64 0, .int .u32 0, .int .i64 0, .int .i64 0, .int .i64 0, .int .i64 0, .int .i64 0, .int .i64 0, .int .i64 0, .int .i64 0, .int .i64 0, .int .i64 0]] w' fun e w'' => e = .returned (.tuple #[.agg (bvs (List.replicate 128 0)).toArray, .int .i64 1]) ∧ Below w'.heap.size w' w'') := fun w' => Lib.hid ((writeInode_any zIno w' zIno_ok).mono fun e w'' h => by
    have h1 := h.1
    rw [show (inoMay zIno.kind && !fBad (inoL zIno)) = false from rfl] at h1
    exact ⟨h1, h.2⟩)
  have hS : S0.length = 128 := wrS_length _ _ _
  have HR : ∀ w', Hid (Calls Try.prog 14 #[.agg (bvs S0).toArray] w' fun e w'' => e = .returned (.tuple #[.agg #[.int .u32 3, .int .u32 9, .int .i64 1, .int .i64 300, .int .u32 0, .int .i64 0, .int .i64 0, .int .i64 0, .int .i64 0, .int .i64 0, .int .i64 0, .int .i64 0, .int .i64 0, .int .i64 77, .int .i64 0], .int .i64 0]) ∧ Below w'.heap.size w' w'') := fun w' => Lib.hid ((readInode_any S0 w' hS).mono fun e w'' h => by
    have h1 := h.1
    obtain ⟨q1, q2⟩ := ino_read x0 x0_ok rfl x0_fit
    rw [rinoE, show rinoOk S0 = true from q1, show rinoV S0 = x0 from q2, if_pos rfl] at h1
    exact ⟨h1, h.2⟩)
  have HSS : Hid ((bvs S0).toArray.size = 128) := by unfold Hid; rw [secV_size, hS]
  have heq : ∀ W : World, (Op.equalIn 10000 33 (.agg #[.int .u32 3, .int .u32 9, .int .i64 1, .int .i64 300, .int .u32 0, .int .i64 0, .int .i64 0, .int .i64 0, .int .i64 0, .int .i64 0, .int .i64 0, .int .i64 0, .int .i64 0, .int .i64 77, .int .i64 0]) (.agg #[.int .u32 3, .int .u32 9, .int .i64 1, .int .i64 300, .int .u32 0, .int .i64 0, .int .i64 0, .int .i64 0, .int .i64 0, .int .i64 0, .int .i64 0, .int .i64 0, .int .i64 0, .int .i64 77, .int .i64 0])).run Try.prog W = .ok true W := fun W => eq_ino W x0 rfl
  have HEQ := fun W => Lib.hid (heq W)
  have HZS : Hid ((bvs (List.replicate 128 (0 : UInt8))).toArray.size = 128) := by unfold Hid; rw [secV_size]; rfl
  obtain ⟨Z0, hZ0⟩ : ∃ Z0, List.replicate 128 (0 : UInt8) = Z0 := ⟨_, rfl⟩
  rw [hZ0] at HZS
  simp only [hZ0] at HZ
  obtain ⟨S, hSS⟩ : ∃ S, S0 = S := ⟨_, rfl⟩
  rw [hSS] at HSS
  simp only [hSS] at HW HR
  clear hS hSS heq hZ0
  go_enter Try.func10, Try.ntmps10
  go_upto_region 3 with (first
    | (go_at_call 11; go_must (refine (HW _).out.mono ?_; rintro e w2 ⟨rfl, hb2⟩; have HG2 := Lib.hid (old_heap (heap_alloc_last w _) hb2); have HB2 := Lib.hid (bnext ((Below.refl _ w).alloc (Nat.le_refl _) _) hb2); clear hb2))
    | (refine wpList_store_row rfl 29 (.tmp 2) (.tmp 12) rfl w2.heap.size zArr (bvs S).toArray 29 rfl rfl (heap_alloc_last _ _) (by rw [HSS.out]; exact size_sec) (by rw [HSS.out, zArr_size]) (sec_one _) ?_))
  rw [World.setRow_alloc_new]
  have hT3 := heap_alloc_last w2 (.cells (bvs S).toArray 29 (0, 0))
  have hb3 : Below w2.heap.size w2 (w2.alloc (.cells (bvs S).toArray 29 (0, 0))) := (Below.refl _ _).alloc (Nat.le_refl _) _
  have hG3 := old_heap HG2.out hb3
  have hB3 := bnext HB2.out hb3
  clear hb3 HG2 HB2
  revert hT3 hG3 hB3
  generalize w2.alloc (.cells (bvs S).toArray 29 (0, 0)) = w3
  intro hT3 hG3 hB3
  have HT3 := Lib.hid hT3
  have HG3 := Lib.hid hG3
  have HB3 := Lib.hid hB3
  clear hT3 hG3 hB3
  go_upto_region 4 with (first
    | (refine wpList_load_row rfl 29 (.tmp 2) rfl w2.heap.size rfl _ _ _ _ HT3.out Try.underlying29 rfl (by rw [HSS.out]; exact size_sec) ?_)
    | (go_at_call 14; go_must (refine (HR _).out.mono ?_; rintro e w4 ⟨rfl, hb4⟩; have HG4 := Lib.hid (old_heap HG3.out hb4); have HB4 := Lib.hid (bnext HB3.out hb4); clear hb4)))
  have hT5 := heap_alloc_last w4 (.cells #[.int .u32 3, .int .u32 9, .int .i64 1, .int .i64 300, .int .u32 0, .int .i64 0, .int .i64 0, .int .i64 0, .int .i64 0, .int .i64 0, .int .i64 0, .int .i64 0, .int .i64 0, .int .i64 77, .int .i64 0] 33 (0, 0))
  have hb5 : Below w4.heap.size w4 (w4.alloc (.cells #[.int .u32 3, .int .u32 9, .int .i64 1, .int .i64 300, .int .u32 0, .int .i64 0, .int .i64 0, .int .i64 0, .int .i64 0, .int .i64 0, .int .i64 0, .int .i64 0, .int .i64 0, .int .i64 77, .int .i64 0] 33 (0, 0))) := (Below.refl _ _).alloc (Nat.le_refl _) _
  have hG5 := old_heap HG4.out hb5
  have hB5 := bnext HB4.out hb5
  clear hb5 HG4 HB4 HT3 HG3 HB3
  revert hT5 hG5 hB5
  generalize w4.alloc (.cells #[.int .u32 3, .int .u32 9, .int .i64 1, .int .i64 300, .int .u32 0, .int .i64 0, .int .i64 0, .int .i64 0, .int .i64 0, .int .i64 0, .int .i64 0, .int .i64 0, .int .i64 0, .int .i64 77, .int .i64 0] 33 (0, 0)) = w5
  intro hT5 hG5 hB5
  have HT5 := Lib.hid hT5
  have HG5 := Lib.hid hG5
  have HB5 := Lib.hid hB5
  clear hT5 hG5 hB5
  go_upto_region 5 with (first
    | (go_at_call 11; go_must (refine (HZ _).out.mono ?_; rintro e w6 ⟨rfl, hb6⟩; have HG6 := Lib.hid (old_heap HG5.out hb6); have HT6 := Lib.hid (old_heap HT5.out hb6); have HB6 := Lib.hid (bnext HB5.out hb6); clear hb6))
    | (refine wpList_store_row rfl 29 (.tmp 6) (.tmp 22) rfl w6.heap.size zArr (bvs Z0).toArray 29 rfl rfl (heap_alloc_last _ _) (by rw [HZS.out]; exact size_sec) (by rw [HZS.out, zArr_size]) (sec_one _) ?_))
  rw [World.setRow_alloc_new]
  have hb7 : Below w6.heap.size w6 (w6.alloc (.cells (bvs Z0).toArray 29 (0, 0))) := (Below.refl _ _).alloc (Nat.le_refl _) _
  have hG7 := old_heap HG6.out hb7
  have hT7 := old_heap HT6.out hb7
  have hB7 := bnext HB6.out hb7
  clear hb7 HG6 HT6 HB6 HG5 HT5 HB5
  revert hG7 hT7 hB7
  generalize w6.alloc (.cells (bvs Z0).toArray 29 (0, 0)) = w7
  intro hG7 hT7 hB7
  have HG7 := Lib.hid hG7
  have HT7 := Lib.hid hT7
  have HB7 := Lib.hid hB7
  clear hG7 hT7 hB7
  have heq := fun W => (HEQ W).out
  go_wp2_with (first
    | (refine wpList_load_row_g (by rfl) 33 (.tmp 1) rfl w.heap.size rfl _ _ _ _ HG7.out Try.underlying33 rfl infoInode ?_)
    | (refine wpList_load_row_g (by rfl) 33 (.tmp 4) rfl w4.heap.size rfl _ _ _ _ HT7.out Try.underlying33 rfl infoInode ?_))
  go_ret
  exact ⟨rfl, HB7.out⟩
end Go.Proofs.Ytlcbfpcabalgcaa
