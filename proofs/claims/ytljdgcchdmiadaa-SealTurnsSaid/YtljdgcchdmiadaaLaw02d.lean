/-
  The walk of SealOpens.
-/
import Derived.Test.YtljdgcchdmiadaaLaw02c
namespace Go.Proofs.Ytljdgcchdmiadaa
open Go.RowKit
set_option linter.unusedVariables false
set_option linter.unusedSimpArgs false
set_option maxHeartbeats 1000000 in
set_option maxRecDepth 10000 in
theorem sealOpens_walk (v : Value) (l : List UInt8) (sealed_ : Bool) (w : World) (hn : l.length ≤ 140737488351232) (hv : Byt w v l) :
    Calls Try.prog 5 #[v, .bool sealed_] w fun e w' => e = .returned (.bool true) ∧ Below w.heap.size w w' := by
  have HV := Lib.hid hv
  have hza := zero_arr
  have hlf := full_length l
  have HLF := Lib.hid hlf
  have HFS : Hid ((bvs (full l)).toArray.size = 128) := by unfold Hid; rw [secV_size, hlf]
  clear hv hlf
  go_enter Try.func5, Try.ntmps5
  go_upto_region 3 with (go_at_call 8; refine (awake02 _).mono ?_; rintro e w1 ⟨rfl, hb1⟩)
  have HFU := Lib.hid (full_any v l w1 (by omega) (HV.out.below hb1))
  have HB1 := Lib.hid hb1
  clear hb1 HV hn
  unfold secV at HFU
  go_upto_if 18 with (first
    | (go_at_call 17; refine HFU.out.mono ?_; rintro e w2 ⟨rfl, h2⟩; have HB2 := Lib.hid (bnext HB1.out h2); clear h2)
    | (refine wpList_store_row rfl 29 (.tmp 5) (.tmp 17) rfl w2.heap.size zArr (bvs (full l)).toArray 29 rfl rfl (heap_alloc_last _ _) (by rw [HFS.out]; exact size_arr) (by rw [HFS.out, zArr_size]) (sec_one _) ?_))
  rw [World.setRow_alloc_new]
  have hS3 : SecAt (w2.alloc (.cells (bvs (full l)).toArray 29 (0, 0))) w2.heap.size 29 (full l) := heap_alloc_last w2 _
  have hB3 : Below w.heap.size w (w2.alloc (.cells (bvs (full l)).toArray 29 (0, 0))) := HB2.out.alloc HB2.out.size _
  have hG : w.heap.size ≤ w2.heap.size := HB2.out.size
  revert hS3 hB3
  generalize w2.alloc (.cells (bvs (full l)).toArray 29 (0, 0)) = w3
  intro hS3 hB3
  revert hS3 hG
  generalize w2.heap.size = g
  intro hG hS3
  obtain ⟨f, hf⟩ : ∃ f, f = full l := ⟨_, rfl⟩
  rw [← hf] at hS3 HLF
  have HS3 := Lib.hid hS3
  have HB3 := Lib.hid hB3
  have HG := Lib.hid hG
  clear hf hS3 hB3 hG HB2 HB1 HFU HFS
  go_cut [] (fun wc => ∃ l2, l2.length = 128 ∧ Hid (SecAt wc g 29 l2) ∧ Hid (Below w.heap.size w wc))
  case first =>
    cases sealed_ with
    | false =>
      go_wp2
      go_meet
      case rel => exact ⟨f, HLF.out, HS3, HB3⟩
    | true =>
      have hbt := byt_take (c := 128) (RdB.row HS3.out (fun i hi => by rw [Nat.zero_add, List.getElem?_toArray, bvs_get _ _ hi])) (by rw [HLF.out]; omega) (by decide) 124 (by rw [HLF.out]; omega)
      have HC := Lib.hid (rcrc_any (.slice (some ⟨g, 0, none⟩) 124 128) (f.take 124) w3 (by simp; omega) hbt)
      have hcl := crc_lt (f.take 124)
      obtain ⟨cc, hcc⟩ : ∃ cc, cc = crc (f.take 124) := ⟨_, rfl⟩
      rw [← hcc] at HC hcl
      have HCL := Lib.hid hcl
      clear hbt hcc hcl
      go_wp2_with (go_at_call 10; refine HC.out.mono ?_; rintro e w4 ⟨rfl, rfl⟩)
      clear HC
      go_loopw [7] (fun i wr => ∃ j : Nat, j ≤ 4 ∧ i = .int .i64 j ∧ (∃ l2, l2.length = 128 ∧ Hid (SecAt wr g 29 l2)) ∧ Hid (Below w.heap.size w wr)) (fun i _ => (4 - intOf i).toNat)
      case atStart => exact ⟨0, by omega, by rfl, ⟨f, HLF.out, HS3⟩, HB3⟩
      case round =>
        obtain ⟨j, hj, rfl, ⟨l2, hl2, HS⟩, HBB⟩ := hrel
        by_cases hlt : j < 4
        · obtain ⟨x, hx⟩ : ∃ x, x = UInt8.ofNat (cc / 256 ^ j % 256) := ⟨_, rfl⟩
          have hpb := put_byte cc j
          rw [← hx, wrap_u8] at hpb
          have HPB := Lib.hid hpb
          have hc1 : ∃ v, wr.cell? ⟨g, 124 + j, none⟩ = some v := by
            rw [cell_row HS.out]
            exact ⟨_, Array.getElem?_eq_getElem (by simp [hl2]; omega)⟩
          obtain ⟨v1, hc1⟩ := hc1
          have hc2 : wr.frozen? ⟨g, 124 + j, none⟩ = false := free_row HS.out _
          have hstep : wr.setCell ⟨g, 124 + j, none⟩ (.int .u8 (x.toNat : Int)) = wr.setRow g (bvs (l2.set (124 + j) x)).toArray := by
            rw [setCell_row HS.out, List.setIfInBounds_toArray]
            have := bvs_set l2 (124 + j) x
            rw [← this]; rfl
          have HST := Lib.hid hstep
          have HL2 := Lib.hid hl2
          clear hpb hx hstep hl2
          have hz1 : (0 : Int) ≤ 124 + (j : Int) := by omega
          have hz2 : 124 + (j : Int) < 128 := by omega
          go_wp2
          rw [HPB.out, HST.out]
          refine ⟨⟨j + 1, by omega, by go_num, ⟨l2.set (124 + j) x, by rw [List.length_set]; exact HL2.out, Lib.hid (setRow_heap _ _ _ _ _ _ HS.out)⟩, Lib.hid ?_⟩, by simp [intOf]; omega⟩
          exact HBB.out.trans ⟨rfl, rfl, rfl, by rw [setRow_size]; exact Nat.le_refl _, fun k hk => setRow_other wr _ _ _ (by have := HG.out; omega)⟩
        · go_wp2
          go_meet
          case rel => exact ⟨l2, hl2, HS, HBB⟩
  case rest =>
  obtain ⟨l2, hl2, HS, HBB⟩ := hcut
  clear HS3 HB3 HLF
  have HL2 := Lib.hid hl2
  have HMS : Hid ((bvs l2).toArray.size = 128) := by unfold Hid; rw [secV_size, hl2]
  have HOP := fun w' => Lib.hid (open_any l2 w' hl2)
  have HRP := fun w' => Lib.hid (ropen_any l2 w' hl2)
  have hll : (openL l2).length ≤ 255 := by
    unfold openL
    split
    · unfold bodyOf; simp; have := (l2.getD 3 0).toNat_lt; omega
    · simp
  have HLL := Lib.hid hll
  have HIS : ∀ w' : World, Hid (Calls Try.prog 16 #[.agg (bvs l2).toArray, .int .u8 5] w' fun e w'' => e = .returned (.bool (openB l2 && decide (l2.getD 2 0 = 5))) ∧ Below w'.heap.size w' w'') := fun w' => is_any l2 5 w' hl2
  have hkk : openB l2 = true → (((openK l2).toNat : Int) == 5) = decide (l2.getD 2 0 = 5) := fun h => by
    unfold openK
    rw [h, if_pos rfl, Bool.eq_iff_iff]
    simp only [decide_eq_true_eq, beq_iff_eq]
    constructor
    · intro h2; exact UInt8.toNat_inj.1 (by have : (l2.getD 2 0).toNat = 5 := by omega
                                            rw [this]; rfl)
    · intro h2; rw [h2]; rfl
  obtain ⟨kk, hk'⟩ : ∃ kk, kk = openK l2 := ⟨_, rfl⟩
  obtain ⟨oe, hoe⟩ : ∃ oe, oe = openE l2 := ⟨_, rfl⟩
  obtain ⟨bb, hbb⟩ : ∃ bb, bb = openL l2 := ⟨_, rfl⟩
  obtain ⟨d5, hd5⟩ : ∃ d5, d5 = decide (l2.getD 2 0 = 5) := ⟨_, rfl⟩
  rw [← hk', ← hoe, ← hbb] at HOP
  rw [← hk', ← hbb] at HRP
  rw [← hbb] at HLL
  rw [← hk', ← hd5] at hkk
  rw [← hd5] at HIS
  have HOE := Lib.hid hoe
  clear hk' hbb hd5 hll hl2 hoe
  unfold secV at HOP HRP
  go_upto_region 12 with (first
    | (refine wpList_load_row rfl 29 (.tmp 5) rfl g rfl _ _ _ _ HS.out Try.underlying29 rfl (by rw [HMS.out]; exact size_arr) ?_)
    | (refine wpList_load_row rfl 29 (.tmp 5) rfl g rfl _ _ _ _ HS5.out Try.underlying29 rfl (by rw [HMS.out]; exact size_arr) ?_)
    | (go_at_call 15; refine (HOP _).out.mono ?_; rintro e w5 ⟨v5, rfl, ho5, hb5⟩; have HO5 := Lib.hid (own_byt ho5).1; have HS5 := Lib.hid (HS.out.keep hb5); have HB5 := Lib.hid (bnext HBB.out hb5); clear ho5 hb5)
    | (go_at_call 18; refine (HRP _).out.mono ?_; rintro e w6 ⟨v6, rfl, ho6, hb6⟩; have HO6 := Lib.hid (own_byt ho6).1; have HY6 := Lib.hid (HO5.out.below hb6); have HS6 := Lib.hid (HS5.out.keep hb6); have HB6 := Lib.hid (bnext HB5.out hb6); clear ho6 hb6))
  have HEQ := Lib.hid (equal_any _ _ bb bb w6 (by have := HLL.out; omega) (by have := HLL.out; omega) HY6.out HO6.out)
  rw [decide_eq_true (show bb = bb from rfl)] at HEQ
  have hk0 : ((kk.toNat : Int) == (kk.toNat : Int)) = true := by simp
  clear HOP HRP HO5 HS5 HB5 HO6 HY6
  cases ho : openB l2 with
  | true =>
    obtain rfl : oe = 0 := by rw [HOE.out]; unfold openE; rw [ho]; rfl
    have hk5 := hkk ho
    rw [ho, Bool.true_and] at HIS
    clear HOE hkk ho
    go_wp2_with (first
      | (go_at_call 14; refine HEQ.out.mono ?_; rintro e w7 ⟨rfl, nn, rfl⟩; have hB7 := below_drewN w6 nn; have HS7 := Lib.hid (HS6.out.keep hB7); have HB7 := Lib.hid (bnext HB6.out hB7); clear hB7)
      | (refine wpList_load_row_g rfl 29 (.tmp 5) rfl g rfl _ _ _ _ HS7.out Try.underlying29 rfl (by rw [HMS.out]; exact size_arr) ?_)
      | (go_at_call 16; refine (HIS _).out.mono ?_; rintro e w8 ⟨rfl, h8⟩; have HB8 := Lib.hid (bnext HB7.out h8); clear h8))
    go_ret
    exact ⟨by simp, HB8.out⟩
  | false =>
    obtain rfl : oe = 21 := by rw [HOE.out]; unfold openE; rw [ho]; rfl
    rw [ho, Bool.false_and] at HIS
    clear HOE hkk ho
    go_wp2_with (first
      | (go_at_call 14; refine HEQ.out.mono ?_; rintro e w7 ⟨rfl, nn, rfl⟩; have hB7 := below_drewN w6 nn; have HS7 := Lib.hid (HS6.out.keep hB7); have HB7 := Lib.hid (bnext HB6.out hB7); clear hB7)
      | (refine wpList_load_row_g rfl 29 (.tmp 5) rfl g rfl _ _ _ _ HS7.out Try.underlying29 rfl (by rw [HMS.out]; exact size_arr) ?_)
      | (go_at_call 16; refine (HIS _).out.mono ?_; rintro e w8 ⟨rfl, h8⟩; have HB8 := Lib.hid (bnext HB7.out h8); clear h8))
    go_ret
    exact ⟨by simp, HB8.out⟩
end Go.Proofs.Ytljdgcchdmiadaa
