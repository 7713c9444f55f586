/-
  CodecPointers: the walk. Printed by wip/tools/mklaw05p.py.
-/
import Derived.Test.YtlcbfpcabalgcaaCodPw
import Derived.Test.YtlcbfpcabalgcaaLaw05a
namespace Go.Proofs.Ytlcbfpcabalgcaa
open Go.RowKit
set_option linter.unusedVariables false
set_option linter.unusedSimpArgs false
set_option linter.unnecessarySimpa false
theorem wptS_len (z : List Int) (h : z.length = 32) : (wptS z).length = 128 := by
  unfold wptS; split
  · rw [ptrB_len, h]
  · exact List.length_replicate
theorem wptE_ok (z : List Int) : wptE z = okE (ptrOk z) := rfl
theorem full_len (b : List UInt8) : (full b).length = 128 := by unfold full; simp; omega
set_option maxRecDepth 10000 in
set_option maxHeartbeats 32000000 in
theorem codecPointers_walk (z : List Int) (hz : z.length = 32) (hi : ∀ n ∈ z, I64 n) (v : Value) (b : List UInt8) (w : World) (hn : b.length ≤ 140737488355328) (hv : Byt w v b) :
    Calls Try.prog 5 #[.agg (ints z).toArray, v] w fun e w' => e = .returned (.bool true) ∧ Below w.heap.size w w' := by
  obtain ⟨sv, cv, rfl, _⟩ := hv.form
  have hA := fun W => awake05 W
  have HA := fun W => Lib.hid (hA W)
  obtain ⟨S, hS⟩ : ∃ S, wptS z = S := ⟨_, rfl⟩
  obtain ⟨ok, hok⟩ : ∃ ok, ptrOk z = ok := ⟨_, rfl⟩
  have hSl : S.length = 128 := by rw [← hS]; exact wptS_len z hz
  have HWI : ∀ W, Hid (Calls Try.prog 21 #[.agg (ints z).toArray] W fun e w' => e = .returned (.tuple #[.agg (bvs S).toArray, .int .i64 (okE ok)]) ∧ Below W.heap.size W w') := fun W => Lib.hid ((wptr_any z W hz hi).mono fun e w' h => by
    have h1 := h.1
    rw [wptE_ok, hS, hok] at h1
    exact ⟨h1, h.2⟩)
  have HRW : ∀ W, Hid (Calls Try.prog 22 #[.agg (ints z).toArray] W fun e w' => e = .returned (.tuple #[.agg (bvs S).toArray, .bool ok]) ∧ Below W.heap.size W w') := fun W => Lib.hid ((rwptr_any z W hz hi).mono fun e w' h => by
    have h1 := h.1
    rw [hS, hok] at h1
    exact ⟨h1, h.2⟩)
  have hback : ok = true → rptOk S = true ∧ rptV S = z := fun h => by
    rw [← hok] at h
    rw [← hS]
    unfold wptS
    rw [if_pos h]
    exact ptr_back z hz h
  have HBK := Lib.hid hback
  have HRI := fun (l : List UInt8) (hl : l.length = 128) W => Lib.hid (rptr_any l W hl)
  have HRR := fun (l : List UInt8) (hl : l.length = 128) W => Lib.hid (rrptr_any l W hl)
  have HXS : Hid ((ints z).toArray.size = 32) := Lib.hid (by rw [List.size_toArray, ints_len, hz])
  have HEQ := fun W => Lib.hid (eq_ptr W z hz)
  have HFU := fun W (hb : Below w.heap.size w W) => Lib.hid (full_any (.slice sv b.length cv) b W hn (hv.below hb))
  have HES := fun W => Lib.hid (heq_sec S hSl W)
  have HSZ : Hid ((bvs S).toArray.size = 128) := Lib.hid (by rw [secV_size, hSl])
  have HSL := Lib.hid hSl
  have HF1 : Hid ((full b).length = 128) := Lib.hid (full_len b)
  have HFZ : Hid ((bvs (full b)).toArray.size = 128) := Lib.hid (by rw [secV_size, full_len])
  have HL2 := fun l => Lib.hid (rptV_len l)
  obtain ⟨FB, hFB⟩ : ∃ FB, full b = FB := ⟨_, rfl⟩
  simp only [hFB] at HF1 HFZ HFU
  clear hA hS hok hSl hback hv hz hi hFB
  obtain ⟨C, hC⟩ : ∃ C, (ints z).toArray = C := ⟨_, rfl⟩
  have HC := Lib.hid hC
  have HE1 : Hid (C.all (·.oneCell') = true) := Lib.hid (by rw [← hC]; exact ints_one z)
  simp only [hC] at HWI HRW HEQ HXS ⊢
  clear hC
  unfold secV at HRI HRR HFU
  unfold RpT at HRI
  unfold RpR at HRR
  have hb1 : Below w.heap.size w (w.alloc (.cells C 54 (0, 0))) := (Below.refl _ _).alloc (Nat.le_refl _) _
  have hG1 := heap_alloc_last w (.cells C 54 (0, 0))
  have HB1 := Lib.hid hb1
  have HG1 := Lib.hid hG1
  clear hb1 hG1
  go_enter Try.func5, Try.ntmps5
  go_upto_region 1 with fail
  revert HB1 HG1
  generalize w.alloc (.cells C 54 (0, 0)) = w1
  intro HB1 HG1
  go_upto_region 3 with (go_at_call 10; refine (HA _).out.mono ?_; rintro e w2 ⟨rfl, hb2⟩; have HG2 := Lib.hid (old_heap HG1.out hb2); have HB2 := Lib.hid (bnext HB1.out hb2); clear hb2)
  go_upto_region 4 with (first
    | (refine wpList_load_row rfl 54 (.tmp 2) rfl w.heap.size rfl _ _ _ _ HG2.out Try.underlying54 rfl (by rw [HXS.out]; exact infoPtr) ?_)
    | (go_at_call 21; go_must (refine (HWI _).out.mono ?_; rintro e w4 ⟨rfl, hbc⟩; have HG4 := Lib.hid (old_heap HG2.out hbc); have HB4 := Lib.hid (bnext HB2.out hbc); clear hbc))
    | (refine wpList_store_row rfl 29 (.tmp 5) (.tmp 19) rfl w4.heap.size zArr (bvs S).toArray 29 rfl rfl (heap_alloc_last _ _) (by rw [HSZ.out]; exact size_sec) (by rw [HSZ.out, zArr_size]) (sec_one _) ?_))
  rw [World.setRow_alloc_new]
  have hT5 := heap_alloc_last w4 (.cells (bvs S).toArray 29 (0, 0))
  have hbb : Below w4.heap.size w4 (w4.alloc (.cells (bvs S).toArray 29 (0, 0))) := (Below.refl _ _).alloc (Nat.le_refl _) _
  have hG5 := old_heap HG4.out hbb
  have hB5 := bnext HB4.out hbb
  clear hbb HG4 HB4
  revert hT5 hG5 hB5
  generalize w4.alloc (.cells (bvs S).toArray 29 (0, 0)) = w5
  generalize w4.heap.size = p5
  intro hT5 hG5 hB5
  have HT5 := Lib.hid hT5
  have HG5 := Lib.hid hG5
  have HB5 := Lib.hid hB5
  clear hT5 hG5 hB5
  go_upto_region 5 with (first
    | (refine wpList_load_row rfl 54 (.tmp 2) rfl w.heap.size rfl _ _ _ _ HG5.out Try.underlying54 rfl (by rw [HXS.out]; exact infoPtr) ?_)
    | (go_at_call 22; go_must (refine (HRW _).out.mono ?_; rintro e w6 ⟨rfl, hbc⟩; have HG6 := Lib.hid (old_heap HG5.out hbc); have HT6 := Lib.hid (old_heap HT5.out hbc); have HB6 := Lib.hid (bnext HB5.out hbc); clear hbc))
    | (refine wpList_store_row rfl 28 (.tmp 7) (.tmp 24) rfl w6.heap.size zArr (bvs S).toArray 28 rfl rfl (heap_alloc_last _ _) (by rw [HSZ.out]; exact size_arr) (by rw [HSZ.out, zArr_size]) (sec_one _) ?_))
  rw [World.setRow_alloc_new]
  have hU7 := heap_alloc_last w6 (.cells (bvs S).toArray 28 (0, 0))
  have hbb : Below w6.heap.size w6 (w6.alloc (.cells (bvs S).toArray 28 (0, 0))) := (Below.refl _ _).alloc (Nat.le_refl _) _
  have hG7 := old_heap HG6.out hbb
  have hT7 := old_heap HT6.out hbb
  have hB7 := bnext HB6.out hbb
  clear hbb HG6 HT6 HB6
  revert hU7 hG7 hT7 hB7
  generalize w6.alloc (.cells (bvs S).toArray 28 (0, 0)) = w7
  generalize w6.heap.size = p7
  intro hU7 hG7 hT7 hB7
  have HU7 := Lib.hid hU7
  have HG7 := Lib.hid hG7
  have HT7 := Lib.hid hT7
  have HB7 := Lib.hid hB7
  clear hU7 hG7 hT7 hB7
  have hes := fun W => (HES W).out
  cases ok with
  | true =>
    obtain ⟨hk1, hk2⟩ := HBK.out rfl
    have he0 : okE true = 0 := rfl
    rw [he0]
    have HRI1 : ∀ W, Hid (Calls Try.prog 23 #[.agg (bvs S).toArray] W fun e w' => e = .returned (.tuple #[.agg C, .int .i64 0]) ∧ Below W.heap.size W w') := fun W => Lib.hid ((HRI S HSL.out W).out.mono fun e w' h => by
      have h1 := h.1
      rw [hk1, hk2, HC.out, if_pos rfl] at h1
      exact ⟨h1, h.2⟩)
    clear hk1 hk2 he0
    have HESZ := HXS
    have HEE := HE1
    go_upto_region 8 with (first
      | (refine wpList_load_row rfl 29 (.tmp 5) rfl p5 rfl _ _ _ _ HT7.out Try.underlying29 rfl (by rw [HSZ.out]; exact size_sec) ?_)
      | (refine wpList_load_row rfl 28 (.tmp 7) rfl p7 rfl _ _ _ _ HU7.out Try.underlying28 rfl (by rw [HSZ.out]; exact size_arr) ?_)
      | (go_at_call 23; go_must (refine (HRI1 _).out.mono ?_; rintro e w8 ⟨rfl, hbc⟩; have HG8 := Lib.hid (old_heap HG7.out hbc); have HB8 := Lib.hid (bnext HB7.out hbc); clear hbc))
      | (refine wpList_store_row rfl 54 (.tmp 9) (.tmp 46) rfl w8.heap.size _ C 54 rfl rfl (heap_alloc_last _ _) (by rw [HESZ.out]; exact infoPtr) (by rw [HESZ.out]; rfl) HEE.out ?_))
    rw [World.setRow_alloc_new]
    have hE9 := heap_alloc_last w8 (.cells C 54 (0, 0))
    have hbb : Below w8.heap.size w8 (w8.alloc (.cells C 54 (0, 0))) := (Below.refl _ _).alloc (Nat.le_refl _) _
    have hG9 := old_heap HG8.out hbb
    have hB9 := bnext HB8.out hbb
    clear hbb HG8 HB8
    revert hE9 hG9 hB9
    generalize w8.alloc (.cells C 54 (0, 0)) = w9
    generalize w8.heap.size = p8
    intro hE9 hG9 hB9
    have HE9 := Lib.hid hE9
    have HG9 := Lib.hid hG9
    have HB9 := Lib.hid hB9
    clear hE9 hG9 hB9
    have heq := fun W => (HEQ W).out
    have HFW := Lib.hid (HFU _ HB9.out).out
    go_upto_region 11 with (first
      | (refine wpList_load_row_g (by first | rfl | simp [Region.wanted, yielded]) 54 (.tmp 9) rfl p8 rfl _ _ _ _ HE9.out Try.underlying54 rfl (by rw [HXS.out]; exact infoPtr) ?_)
      | (refine wpList_load_row_g (by first | rfl | simp [Region.wanted, yielded]) 54 (.tmp 2) rfl w.heap.size rfl _ _ _ _ HG9.out Try.underlying54 rfl (by rw [HXS.out]; exact infoPtr) ?_)
      | (go_at_call 24; go_must (refine HFW.out.mono ?_; rintro e w11 ⟨rfl, hbc⟩; have HB11 := Lib.hid (bnext HB9.out hbc); clear hbc))
      | (refine wpList_store_row rfl 28 (.tmp 11) (.tmp 59) rfl w11.heap.size zArr (bvs FB).toArray 28 rfl rfl (heap_alloc_last _ _) (by rw [HFZ.out]; exact size_arr) (by rw [HFZ.out, zArr_size]) (sec_one _) ?_))
    clear heq
    clear HFW HE9 HG9 HB9 HFU hes HES
    rw [World.setRow_alloc_new]
    have hV12 := heap_alloc_last w11 (.cells (bvs FB).toArray 28 (0, 0))
    have hbb : Below w11.heap.size w11 (w11.alloc (.cells (bvs FB).toArray 28 (0, 0))) := (Below.refl _ _).alloc (Nat.le_refl _) _
    have hB12 := bnext HB11.out hbb
    clear hbb HB11
    revert hV12 hB12
    generalize w11.alloc (.cells (bvs FB).toArray 28 (0, 0)) = w12
    generalize w11.heap.size = p11
    intro hV12 hB12
    have HV12 := Lib.hid hV12
    have HB12 := Lib.hid hB12
    clear hV12 hB12
    have HR1 := fun W => HRI FB HF1.out W
    have HR2 := fun W => HRR FB HF1.out W
    have HEQ2 := fun W => Lib.hid (eq_ptr W (rptV FB) (HL2 FB).out)
    have HDS : Hid ((ints (rptV FB)).toArray.size = 32) := Lib.hid (by rw [List.size_toArray, ints_len, (HL2 FB).out])
    have HD1 : Hid ((ints (rptV FB)).toArray.all (·.oneCell') = true) := Lib.hid (ints_one _)
    obtain ⟨ok2, hok2⟩ : ∃ ok2, rptOk FB = ok2 := ⟨_, rfl⟩
    obtain ⟨D, hD⟩ : ∃ D, (ints (rptV FB)).toArray = D := ⟨_, rfl⟩
    simp only [hok2, hD] at HR1 HR2 HEQ2 HDS HD1
    clear hok2 hD HRI HRR HL2
    go_upto_region 12 with (first
      | (refine wpList_load_row rfl 28 (.tmp 11) rfl p11 rfl _ _ _ _ HV12.out Try.underlying28 rfl (by rw [HFZ.out]; exact size_arr) ?_)
      | (go_at_call 23; go_must (refine (HR1 _).out.mono ?_; rintro e w13 ⟨rfl, hbc⟩; have HV13 := Lib.hid (old_heap HV12.out hbc); have HB13 := Lib.hid (bnext HB12.out hbc); clear hbc))
      | (refine wpList_store_row rfl 54 (.tmp 12) (.tmp 63) rfl w13.heap.size _ D 54 rfl rfl (heap_alloc_last _ _) (by rw [HDS.out]; exact infoPtr) (by rw [HDS.out]; rfl) HD1.out ?_))
    rw [World.setRow_alloc_new]
    have hE14 := heap_alloc_last w13 (.cells D 54 (0, 0))
    have hbb : Below w13.heap.size w13 (w13.alloc (.cells D 54 (0, 0))) := (Below.refl _ _).alloc (Nat.le_refl _) _
    have hV14 := old_heap HV13.out hbb
    have hB14 := bnext HB13.out hbb
    clear hbb HV13 HB13
    revert hE14 hV14 hB14
    generalize w13.alloc (.cells D 54 (0, 0)) = w14
    generalize w13.heap.size = p13
    intro hE14 hV14 hB14
    have HE14 := Lib.hid hE14
    have HV14 := Lib.hid hV14
    have HB14 := Lib.hid hB14
    clear hE14 hV14 hB14
    go_upto_region 13 with (first
      | (refine wpList_load_row rfl 28 (.tmp 11) rfl p11 rfl _ _ _ _ HV14.out Try.underlying28 rfl (by rw [HFZ.out]; exact size_arr) ?_)
      | (go_at_call 25; go_must (refine (HR2 _).out.mono ?_; rintro e w15 ⟨rfl, hbc⟩; have HE15 := Lib.hid (old_heap HE14.out hbc); have HB15 := Lib.hid (bnext HB14.out hbc); clear hbc))
      | (refine wpList_store_row rfl 54 (.tmp 13) (.tmp 68) rfl w15.heap.size _ D 54 rfl rfl (heap_alloc_last _ _) (by rw [HDS.out]; exact infoPtr) (by rw [HDS.out]; rfl) HD1.out ?_))
    rw [World.setRow_alloc_new]
    have hF16 := heap_alloc_last w15 (.cells D 54 (0, 0))
    have hbb : Below w15.heap.size w15 (w15.alloc (.cells D 54 (0, 0))) := (Below.refl _ _).alloc (Nat.le_refl _) _
    have hE16 := old_heap HE15.out hbb
    have hB16 := bnext HB15.out hbb
    clear hbb HE15 HB15
    revert hF16 hE16 hB16
    generalize w15.alloc (.cells D 54 (0, 0)) = w16
    generalize w15.heap.size = p15
    intro hF16 hE16 hB16
    have HF16 := Lib.hid hF16
    have HE16 := Lib.hid hE16
    have HB16 := Lib.hid hB16
    clear hF16 hE16 hB16
    have heq2 := fun W => (HEQ2 W).out
    cases ok2 with
    | true =>
      go_wp2_with (first
        | (refine wpList_load_row rfl 54 (.tmp 12) rfl p13 rfl _ _ _ _ HE16.out Try.underlying54 rfl (by rw [HDS.out]; exact infoPtr) ?_)
        | (refine wpList_load_row rfl 54 (.tmp 13) rfl p15 rfl _ _ _ _ HF16.out Try.underlying54 rfl (by rw [HDS.out]; exact infoPtr) ?_))
      go_ret
      exact ⟨rfl, HB16.out⟩
    | false =>
      go_wp2_with (first
        | (refine wpList_load_row rfl 54 (.tmp 12) rfl p13 rfl _ _ _ _ HE16.out Try.underlying54 rfl (by rw [HDS.out]; exact infoPtr) ?_)
        | (refine wpList_load_row rfl 54 (.tmp 13) rfl p15 rfl _ _ _ _ HF16.out Try.underlying54 rfl (by rw [HDS.out]; exact infoPtr) ?_))
      go_ret
      exact ⟨rfl, HB16.out⟩
  | false =>
    have he0 : okE false = 1 := rfl
    rw [he0]
    clear he0
    have HRI1 := fun W => HRI S HSL.out W
    have HEE : Hid ((ints (rptV S)).toArray.all (·.oneCell') = true) := Lib.hid (ints_one _)
    have HESZ : Hid ((ints (rptV S)).toArray.size = 32) := Lib.hid (by rw [List.size_toArray, ints_len, (HL2 S).out])
    obtain ⟨E, hE⟩ : ∃ E, (ints (rptV S)).toArray = E := ⟨_, rfl⟩
    obtain ⟨N9, hN9⟩ : ∃ N9 : Int, (if rptOk S then 0 else 21) = N9 := ⟨_, rfl⟩
    simp only [hE, hN9] at HRI1 HEE HESZ
    clear hE hN9
    go_upto_region 8 with (first
      | (refine wpList_load_row rfl 29 (.tmp 5) rfl p5 rfl _ _ _ _ HT7.out Try.underlying29 rfl (by rw [HSZ.out]; exact size_sec) ?_)
      | (refine wpList_load_row rfl 28 (.tmp 7) rfl p7 rfl _ _ _ _ HU7.out Try.underlying28 rfl (by rw [HSZ.out]; exact size_arr) ?_)
      | (go_at_call 23; go_must (refine (HRI1 _).out.mono ?_; rintro e w8 ⟨rfl, hbc⟩; have HG8 := Lib.hid (old_heap HG7.out hbc); have HB8 := Lib.hid (bnext HB7.out hbc); clear hbc))
      | (refine wpList_store_row rfl 54 (.tmp 9) (.tmp 46) rfl w8.heap.size _ E 54 rfl rfl (heap_alloc_last _ _) (by rw [HESZ.out]; exact infoPtr) (by rw [HESZ.out]; rfl) HEE.out ?_))
    rw [World.setRow_alloc_new]
    have hE9 := heap_alloc_last w8 (.cells E 54 (0, 0))
    have hbb : Below w8.heap.size w8 (w8.alloc (.cells E 54 (0, 0))) := (Below.refl _ _).alloc (Nat.le_refl _) _
    have hG9 := old_heap HG8.out hbb
    have hB9 := bnext HB8.out hbb
    clear hbb HG8 HB8
    revert hE9 hG9 hB9
    generalize w8.alloc (.cells E 54 (0, 0)) = w9
    generalize w8.heap.size = p8
    intro hE9 hG9 hB9
    have HE9 := Lib.hid hE9
    have HG9 := Lib.hid hG9
    have HB9 := Lib.hid hB9
    clear hE9 hG9 hB9
    have HFW := Lib.hid (HFU _ HB9.out).out
    go_upto_region 11 with (first
      | (go_at_call 24; go_must (refine HFW.out.mono ?_; rintro e w11 ⟨rfl, hbc⟩; have HB11 := Lib.hid (bnext HB9.out hbc); clear hbc))
      | (refine wpList_store_row rfl 28 (.tmp 11) (.tmp 59) rfl w11.heap.size zArr (bvs FB).toArray 28 rfl rfl (heap_alloc_last _ _) (by rw [HFZ.out]; exact size_arr) (by rw [HFZ.out, zArr_size]) (sec_one _) ?_))
    clear HFW HE9 HG9 HB9 HFU hes HES
    rw [World.setRow_alloc_new]
    have hV12 := heap_alloc_last w11 (.cells (bvs FB).toArray 28 (0, 0))
    have hbb : Below w11.heap.size w11 (w11.alloc (.cells (bvs FB).toArray 28 (0, 0))) := (Below.refl _ _).alloc (Nat.le_refl _) _
    have hB12 := bnext HB11.out hbb
    clear hbb HB11
    revert hV12 hB12
    generalize w11.alloc (.cells (bvs FB).toArray 28 (0, 0)) = w12
    generalize w11.heap.size = p11
    intro hV12 hB12
    have HV12 := Lib.hid hV12
    have HB12 := Lib.hid hB12
    clear hV12 hB12
    have HR1 := fun W => HRI FB HF1.out W
    have HR2 := fun W => HRR FB HF1.out W
    have HEQ2 := fun W => Lib.hid (eq_ptr W (rptV FB) (HL2 FB).out)
    have HDS : Hid ((ints (rptV FB)).toArray.size = 32) := Lib.hid (by rw [List.size_toArray, ints_len, (HL2 FB).out])
    have HD1 : Hid ((ints (rptV FB)).toArray.all (·.oneCell') = true) := Lib.hid (ints_one _)
    obtain ⟨ok2, hok2⟩ : ∃ ok2, rptOk FB = ok2 := ⟨_, rfl⟩
    obtain ⟨D, hD⟩ : ∃ D, (ints (rptV FB)).toArray = D := ⟨_, rfl⟩
    simp only [hok2, hD] at HR1 HR2 HEQ2 HDS HD1
    clear hok2 hD HRI HRR HL2
    go_upto_region 12 with (first
      | (refine wpList_load_row rfl 28 (.tmp 11) rfl p11 rfl _ _ _ _ HV12.out Try.underlying28 rfl (by rw [HFZ.out]; exact size_arr) ?_)
      | (go_at_call 23; go_must (refine (HR1 _).out.mono ?_; rintro e w13 ⟨rfl, hbc⟩; have HV13 := Lib.hid (old_heap HV12.out hbc); have HB13 := Lib.hid (bnext HB12.out hbc); clear hbc))
      | (refine wpList_store_row rfl 54 (.tmp 12) (.tmp 63) rfl w13.heap.size _ D 54 rfl rfl (heap_alloc_last _ _) (by rw [HDS.out]; exact infoPtr) (by rw [HDS.out]; rfl) HD1.out ?_))
    rw [World.setRow_alloc_new]
    have hE14 := heap_alloc_last w13 (.cells D 54 (0, 0))
    have hbb : Below w13.heap.size w13 (w13.alloc (.cells D 54 (0, 0))) := (Below.refl _ _).alloc (Nat.le_refl _) _
    have hV14 := old_heap HV13.out hbb
    have hB14 := bnext HB13.out hbb
    clear hbb HV13 HB13
    revert hE14 hV14 hB14
    generalize w13.alloc (.cells D 54 (0, 0)) = w14
    generalize w13.heap.size = p13
    intro hE14 hV14 hB14
    have HE14 := Lib.hid hE14
    have HV14 := Lib.hid hV14
    have HB14 := Lib.hid hB14
    clear hE14 hV14 hB14
    go_upto_region 13 with (first
      | (refine wpList_load_row rfl 28 (.tmp 11) rfl p11 rfl _ _ _ _ HV14.out Try.underlying28 rfl (by rw [HFZ.out]; exact size_arr) ?_)
      | (go_at_call 25; go_must (refine (HR2 _).out.mono ?_; rintro e w15 ⟨rfl, hbc⟩; have HE15 := Lib.hid (old_heap HE14.out hbc); have HB15 := Lib.hid (bnext HB14.out hbc); clear hbc))
      | (refine wpList_store_row rfl 54 (.tmp 13) (.tmp 68) rfl w15.heap.size _ D 54 rfl rfl (heap_alloc_last _ _) (by rw [HDS.out]; exact infoPtr) (by rw [HDS.out]; rfl) HD1.out ?_))
    rw [World.setRow_alloc_new]
    have hF16 := heap_alloc_last w15 (.cells D 54 (0, 0))
    have hbb : Below w15.heap.size w15 (w15.alloc (.cells D 54 (0, 0))) := (Below.refl _ _).alloc (Nat.le_refl _) _
    have hE16 := old_heap HE15.out hbb
    have hB16 := bnext HB15.out hbb
    clear hbb HE15 HB15
    revert hF16 hE16 hB16
    generalize w15.alloc (.cells D 54 (0, 0)) = w16
    generalize w15.heap.size = p15
    intro hF16 hE16 hB16
    have HF16 := Lib.hid hF16
    have HE16 := Lib.hid hE16
    have HB16 := Lib.hid hB16
    clear hF16 hE16 hB16
    have heq2 := fun W => (HEQ2 W).out
    cases ok2 with
    | true =>
      go_wp2_with (first
        | (refine wpList_load_row rfl 54 (.tmp 12) rfl p13 rfl _ _ _ _ HE16.out Try.underlying54 rfl (by rw [HDS.out]; exact infoPtr) ?_)
        | (refine wpList_load_row rfl 54 (.tmp 13) rfl p15 rfl _ _ _ _ HF16.out Try.underlying54 rfl (by rw [HDS.out]; exact infoPtr) ?_))
      go_ret
      exact ⟨rfl, HB16.out⟩
    | false =>
      go_wp2_with (first
        | (refine wpList_load_row rfl 54 (.tmp 12) rfl p13 rfl _ _ _ _ HE16.out Try.underlying54 rfl (by rw [HDS.out]; exact infoPtr) ?_)
        | (refine wpList_load_row rfl 54 (.tmp 13) rfl p15 rfl _ _ _ _ HF16.out Try.underlying54 rfl (by rw [HDS.out]; exact infoPtr) ?_))
      go_ret
      exact ⟨rfl, HB16.out⟩
end Go.Proofs.Ytlcbfpcabalgcaa
