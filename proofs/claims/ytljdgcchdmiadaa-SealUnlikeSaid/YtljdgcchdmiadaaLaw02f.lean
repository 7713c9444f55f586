/-
  The walk of SealUnlike.
-/
import Derived.Test.YtljdgcchdmiadaaLaw02c
namespace Go.Proofs.Ytljdgcchdmiadaa
open Go.RowKit
set_option linter.unusedVariables false
set_option linter.unusedSimpArgs false
theorem or_one (k : UInt8) : bits .or .u8 (k.toNat : Int) 1 = ((k ||| 1 : UInt8).toNat : Int) := by
  have := bits_or_u8_nat k.toNat 1 k.toNat_lt (by decide)
  rw [show ((1 : Nat) : Int) = 1 from rfl] at this
  rw [this, UInt8.toNat_or]; rfl
theorem or_one_ne (k : UInt8) : k ||| 1 ≠ 0 := by
  intro h
  have h2 := congrArg UInt8.toNat h
  rw [UInt8.toNat_or] at h2
  have h3 : (k.toNat ||| 1).testBit 0 = true := by rw [Nat.testBit_or]; simp
  have h4 : k.toNat ||| 1 = 0 := h2
  rw [h4] at h3
  simp at h3
set_option maxHeartbeats 1000000 in
set_option maxRecDepth 10000 in
theorem sealUnlike_walk (k0 k1 : UInt8) (va vb : Value) (la lb : List UInt8) (w : World) (hna : la.length ≤ 140737488351232) (hnb : lb.length ≤ 140737488351232) (hva : Byt w va la) (hvb : Byt w vb lb) :
    Calls Try.prog 7 #[.agg #[.int .u8 (k0.toNat : Int), .int .u8 (k1.toNat : Int)], va, vb] w fun e w' => e = .returned (.bool true) ∧ Below w.heap.size w w' := by
  obtain ⟨A, c, rfl⟩ := byt_form hva
  obtain ⟨B, cb, rfl⟩ := byt_form hvb
  have hz := zero_sec
  have hg0 := heap_alloc_last w (.cells #[.int .u8 (k0.toNat : Int), .int .u8 (k1.toNat : Int)] 47 (0, 0))
  have hb0 : Below w.heap.size w (w.alloc (.cells #[.int .u8 (k0.toNat : Int), .int .u8 (k1.toNat : Int)] 47 (0, 0))) := (Below.refl _ _).alloc (Nat.le_refl _) _
  have HA := Lib.hid (hva.below hb0)
  have HBV := Lib.hid (hvb.below hb0)
  have HG0 := Lib.hid hg0
  have HB0 := Lib.hid hb0
  clear hva hvb hg0 hb0
  go_enter Try.func7, Try.ntmps7
  go_upto_if 16 with (go_at_call 8; refine (awake02 _).mono ?_; rintro e w1 ⟨rfl, hb1⟩)
  have HA1 := Lib.hid (HA.out.below hb1)
  have HV1 := Lib.hid (HBV.out.below hb1)
  have HG1 := Lib.hid (heap_keep HG0.out hb1)
  have HB1 := Lib.hid (bnext HB0.out hb1)
  clear hb1 HA HBV HG0 HB0
  go_cut [1] (fun v wc => ∃ l', l'.length ≤ 120 ∧ Byt w1 v l' ∧ w1 = wc)
  case first =>
    by_cases hlen : 120 < la.length
    · obtain ⟨hcap, hbyt⟩ := byt_cut HA1.out hlen
      have HQ := Lib.hid hbyt
      clear hbyt
      go_wp2
      go_meet
      case rel => exact ⟨_, by simp; omega, HQ.out, rfl⟩
    · go_wp2
      go_meet
      case rel => exact ⟨la, by omega, HA1.out, rfl⟩
  case rest =>
  obtain ⟨a, ha, hva, rfl⟩ := hcut
  obtain ⟨A', c', rfl⟩ := byt_form hva
  have HA := Lib.hid ha
  have HYA := Lib.hid hva
  clear HA1 hna ha hva
  go_upto_if 21 with fail
  go_cut [2] (fun v wc => ∃ l', l'.length ≤ 120 ∧ Byt w1 v l' ∧ w1 = wc)
  case first =>
    by_cases hlen : 120 < lb.length
    · obtain ⟨hcap, hbyt⟩ := byt_cut HV1.out hlen
      have HQ := Lib.hid hbyt
      clear hbyt
      go_wp2
      go_meet
      case rel => exact ⟨_, by simp; omega, HQ.out, rfl⟩
    · go_wp2
      go_meet
      case rel => exact ⟨lb, by omega, HV1.out, rfl⟩
  case rest =>
  obtain ⟨b, hb, hvb, rfl⟩ := hcut
  obtain ⟨B', cb', rfl⟩ := byt_form hvb
  have HBL := Lib.hid hb
  have HYB := Lib.hid hvb
  clear HV1 hnb hb hvb
  have hor0 := or_one k0
  have hor1 := or_one k1
  have hn0 := or_one_ne k0
  have hn1 := or_one_ne k1
  have hc0 : w1.cell? ⟨w.heap.size, 0, none⟩ = some (.int .u8 (k0.toNat : Int)) := by rw [cell_row HG1.out]; rfl
  obtain ⟨K0, hK0⟩ : ∃ K0, K0 = k0 ||| 1 := ⟨_, rfl⟩
  obtain ⟨K1, hK1⟩ : ∃ K1, K1 = k1 ||| 1 := ⟨_, rfl⟩
  rw [← hK0] at hor0 hn0
  rw [← hK1] at hor1 hn1
  have hm0 : mayB K0 a = true := (mayB_iff _ _).2 ⟨hn0, HA.out⟩
  have hm1 : mayB K1 b = true := (mayB_iff _ _).2 ⟨hn1, HBL.out⟩
  have HM0 := Lib.hid hm0
  have HM1 := Lib.hid hm1
  have hMK := make_any K0 _ a w1 HYA.out
  have e1 : makeS K0 a = sealS K0 a := by unfold makeS; rw [hm0]; rfl
  have e2 : makeE K0 a = 0 := by unfold makeE; rw [hm0]; rfl
  rw [e1, e2] at hMK
  have hinj := seal_inj K0 K1 a b HA.out HBL.out
  have hl1 := sealS_length K0 a HA.out
  have hl2 := sealS_length K1 b HBL.out
  obtain ⟨m, hm⟩ : ∃ m, m = sealS K0 a := ⟨_, rfl⟩
  obtain ⟨m2, hm2⟩ : ∃ m2, m2 = sealS K1 b := ⟨_, rfl⟩
  rw [← hm] at hMK hinj hl1
  rw [← hm2] at hinj hl2
  have HMK := Lib.hid hMK
  have HINJ := Lib.hid hinj
  have HM2 := Lib.hid hm2
  have HL1 := Lib.hid hl1
  have HL2 := Lib.hid hl2
  have HMS : Hid ((bvs m).toArray.size = 128) := by unfold Hid; rw [secV_size, hl1]
  have HMS2 : Hid ((bvs m2).toArray.size = 128) := by unfold Hid; rw [secV_size, hl2]
  clear hK0 hK1 hn0 hn1 hm0 hm1 hMK e1 e2 hinj hl1 hl2 hm hm2
  unfold secV at HMK
  go_upto_region 8 with (first
    | (go_at_call 12; refine HMK.out.mono ?_; rintro e w3 ⟨rfl, h3⟩; have HB3 := Lib.hid h3; clear h3)
    | (refine wpList_store_row rfl 30 (.tmp 7) (.tmp 30) rfl w3.heap.size zArr (bvs m).toArray 30 rfl rfl (heap_alloc_last _ _) (by rw [HMS.out]; exact size_sec) (by rw [HMS.out, zArr_size]) (sec_one _) ?_))
  rw [World.setRow_alloc_new]
  have hS4 : SecAt (w3.alloc (.cells (bvs m).toArray 30 (0, 0))) w3.heap.size 30 m := heap_alloc_last w3 _
  have hB4 : Below w1.heap.size w1 (w3.alloc (.cells (bvs m).toArray 30 (0, 0))) := HB3.out.alloc HB3.out.size _
  revert hS4 hB4
  generalize w3.alloc (.cells (bvs m).toArray 30 (0, 0)) = w4
  intro hS4 hB4
  have hG4 := heap_keep HG1.out hB4
  have c1 : w4.cell? ⟨w.heap.size, 1, none⟩ = some (.int .u8 (k1.toNat : Int)) := by rw [cell_row hG4]; rfl
  have HG4 := Lib.hid hG4
  have HYA4 := Lib.hid (HYA.out.below hB4)
  have HYB4 := Lib.hid (HYB.out.below hB4)
  have HB4 := Lib.hid (bnext HB1.out hB4)
  have HS4 := Lib.hid hS4
  have hMK := make_any K1 _ b w4 HYB4.out
  have e1 : makeS K1 b = m2 := by rw [HM2.out]; unfold makeS; rw [HM1.out]; rfl
  have e2 : makeE K1 b = 0 := by unfold makeE; rw [HM1.out]; rfl
  rw [e1, e2] at hMK
  have HMK2 := Lib.hid hMK
  clear hS4 hB4 hG4 HB3 HMK HYA HYB HB1 HG1 hMK e1 e2 hc0
  unfold secV at HMK2
  go_upto_region 9 with (first
    | (go_at_call 12; refine HMK2.out.mono ?_; rintro e w5 ⟨rfl, h5⟩; have HB5 := Lib.hid h5; clear h5)
    | (refine wpList_store_row rfl 30 (.tmp 9) (.tmp 38) rfl w5.heap.size zArr (bvs m2).toArray 30 rfl rfl (heap_alloc_last _ _) (by rw [HMS2.out]; exact size_sec) (by rw [HMS2.out, zArr_size]) (sec_one _) ?_))
  rw [World.setRow_alloc_new]
  have hS6 : SecAt (w5.alloc (.cells (bvs m2).toArray 30 (0, 0))) w5.heap.size 30 m2 := heap_alloc_last w5 _
  have hB6 : Below w4.heap.size w4 (w5.alloc (.cells (bvs m2).toArray 30 (0, 0))) := HB5.out.alloc HB5.out.size _
  revert hS6 hB6
  generalize w5.alloc (.cells (bvs m2).toArray 30 (0, 0)) = w6
  intro hS6 hB6
  have hG6 := heap_keep HG4.out hB6
  have c0 : w6.cell? ⟨w.heap.size, 0, none⟩ = some (.int .u8 (k0.toNat : Int)) := by rw [cell_row hG6]; rfl
  have c1' : w6.cell? ⟨w.heap.size, 1, none⟩ = some (.int .u8 (k1.toNat : Int)) := by rw [cell_row hG6]; rfl
  have HT6 := Lib.hid (HS4.out.keep hB6)
  have HS6 := Lib.hid hS6
  have HEQ := Lib.hid (equal_any _ _ a b w6 (by have := HA.out; omega) (by have := HBL.out; omega) (HYA4.out.below hB6) (HYB4.out.below hB6))
  have HB6 := Lib.hid (bnext HB4.out hB6)
  have heq : ∀ W : World, (Op.equalIn 10000 30 (.agg (bvs m).toArray) (.agg (bvs m2).toArray)).run Try.prog W = .ok (decide (m = m2)) W := fun W => equal_sector W m m2 HL1.out HL2.out
  clear hS6 hB6 hG6 HB5 HMK2 HYA4 HYB4 HB4 HG4 HS4 c1
  by_cases hkk : K0 = K1
  · subst hkk
    have hk : ((K0.toNat : Int) == (K0.toNat : Int)) = true := by simp
    have hdd : decide (m = m2) = decide (a = b) := by
      rw [decide_eq_decide]; rw [HINJ.out]; simp
    obtain ⟨dd, hd⟩ : ∃ dd, dd = decide (a = b) := ⟨_, rfl⟩
    rw [← hd] at HEQ hdd
    rw [hdd] at heq
    clear hd hdd
    go_wp2_with (first
      | (go_at_call 14; refine HEQ.out.mono ?_; rintro e w7 ⟨rfl, nn, rfl⟩; have hB7 := below_drewN w6 nn; have HT7 := Lib.hid (HT6.out.keep hB7); have HS7 := Lib.hid (HS6.out.keep hB7); have HB7 := Lib.hid (bnext HB6.out hB7); clear hB7)
      | (refine wpList_load_row_g rfl 30 (.tmp 7) rfl w3.heap.size rfl _ _ _ _ HT7.out Try.underlying30 rfl (by rw [HMS.out]; exact size_sec) ?_)
      | (refine wpList_load_row_g rfl 30 (.tmp 9) rfl w5.heap.size rfl _ _ _ _ HS7.out Try.underlying30 rfl (by rw [HMS2.out]; exact size_sec) ?_))
    go_ret
    exact ⟨rfl, HB7.out⟩
  · have hk : ((K0.toNat : Int) == (K1.toNat : Int)) = false := by
      simp only [beq_eq_false_iff_ne, ne_eq, Int.natCast_inj]
      exact fun h => hkk (UInt8.toNat_inj.1 h)
    have hdd : decide (m = m2) = false := by
      rw [decide_eq_false_iff_not, HINJ.out]; exact fun h => hkk h.1
    rw [hdd] at heq
    clear hdd hkk
    go_wp2_with (first
      | (refine wpList_load_row_g rfl 30 (.tmp 7) rfl w3.heap.size rfl _ _ _ _ HT6.out Try.underlying30 rfl (by rw [HMS.out]; exact size_sec) ?_)
      | (refine wpList_load_row_g rfl 30 (.tmp 9) rfl w5.heap.size rfl _ _ _ _ HS6.out Try.underlying30 rfl (by rw [HMS2.out]; exact size_sec) ?_))
    go_ret
    exact ⟨rfl, HB6.out⟩
end Go.Proofs.Ytljdgcchdmiadaa
