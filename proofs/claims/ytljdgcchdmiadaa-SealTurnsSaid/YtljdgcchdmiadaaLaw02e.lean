/-
  The walk of SealTurns.
-/
import Derived.Test.YtljdgcchdmiadaaLaw02d
namespace Go.Proofs.Ytljdgcchdmiadaa
open Go.RowKit
set_option linter.unusedVariables false
set_option linter.unusedSimpArgs false
theorem tmod_bound (a : Int) : -128 < a.tmod 128 ∧ a.tmod 128 < 128 := by
  by_cases h : 0 ≤ a
  · rw [Int.tmod_eq_emod_of_nonneg h]; omega
  · have h2 := Int.neg_tmod (a := -a) (b := 128)
    rw [Int.neg_neg] at h2
    rw [h2, Int.tmod_eq_emod_of_nonneg (by omega)]; omega
theorem turn_at (a : Int) : ∃ i : Nat, i < 128 ∧ (wrap64 (a.tmod 128 + 128)).tmod 128 = (i : Int) := by
  have hb := tmod_bound a
  have e : wrap64 (a.tmod 128 + 128) = a.tmod 128 + 128 := by rw [← i64_w]; exact IntWalk.i64_in _ (by omega)
  rw [e, Int.tmod_eq_emod_of_nonneg (by omega)]
  exact ⟨((a.tmod 128 + 128) % 128).toNat, by omega, by omega⟩
theorem own_zero {w : World} {base e : Nat} {v : Value} {l : List UInt8} (h : Byt w v l) (hl : l = []) : ∃ sp c, v = .slice sp 0 c := by
  subst hl
  obtain ⟨A, c, h⟩ := byt_form h
  exact ⟨A, c, h⟩
set_option maxHeartbeats 1000000 in
set_option maxRecDepth 10000 in
theorem sealTurns_walk (kind : UInt8) (v : Value) (l : List UInt8) (a0 a1 : Int) (w : World) (hn : l.length ≤ 140737488351232) (hv : Byt w v l) :
    Calls Try.prog 6 #[.int .u8 (kind.toNat : Int), v, .agg #[.int .i64 a0, .int .i64 a1]] w fun e w' => e = .returned (.bool true) ∧ Below w.heap.size w w' := by
  obtain ⟨A, c, rfl⟩ := byt_form hv
  have hz := zero_sec
  have hg0 := heap_alloc_last w (.cells #[.int .i64 a0, .int .i64 a1] 45 (0, 0))
  have hb0 : Below w.heap.size w (w.alloc (.cells #[.int .i64 a0, .int .i64 a1] 45 (0, 0))) := (Below.refl _ _).alloc (Nat.le_refl _) _
  have HV := Lib.hid (hv.below hb0)
  have HG0 := Lib.hid hg0
  have HB0 := Lib.hid hb0
  clear hv hg0 hb0
  go_enter Try.func6, Try.ntmps6
  go_upto_if 17 with (go_at_call 8; refine (awake02 _).mono ?_; rintro e w1 ⟨rfl, hb1⟩)
  have HV1 := Lib.hid (HV.out.below hb1)
  have HG1 := Lib.hid (heap_keep HG0.out hb1)
  have HB1 := Lib.hid (bnext HB0.out hb1)
  clear hb1 HV HG0 HB0
  go_cut [1] (fun v wc => ∃ l', l'.length ≤ 300 ∧ Byt w1 v l' ∧ w1 = wc)
  case first =>
    by_cases hlen : 300 < l.length
    · obtain ⟨hcap, hbyt⟩ := byt_cut HV1.out hlen
      have HQ := Lib.hid hbyt
      clear hbyt
      go_wp2
      go_meet
      case rel => exact ⟨_, by simp; omega, HQ.out, rfl⟩
    · go_wp2
      go_meet
      case rel => exact ⟨l, by omega, HV1.out, rfl⟩
  case rest =>
  obtain ⟨l', hl', hv', rfl⟩ := hcut
  clear HV1 hn
  obtain ⟨A', c', rfl⟩ := byt_form hv'
  have HMK := Lib.hid (make_any kind _ l' w1 hv')
  have hml := makeS_length kind l'
  obtain ⟨m, hm⟩ : ∃ m, m = makeS kind l' := ⟨_, rfl⟩
  obtain ⟨me, hme⟩ : ∃ me, me = makeE kind l' := ⟨_, rfl⟩
  rw [← hm, ← hme] at HMK
  rw [← hm] at hml
  have HML := Lib.hid hml
  have HM := Lib.hid hm
  have HME := Lib.hid hme
  have HMS : Hid ((bvs m).toArray.size = 128) := by unfold Hid; rw [secV_size, hml]
  clear hm hme hml hv' hl'
  unfold secV at HMK
  go_upto_region 6 with (first
    | (go_at_call 12; refine HMK.out.mono ?_; rintro e w3 ⟨rfl, h3⟩; have HB3 := Lib.hid h3; clear h3)
    | (refine wpList_store_row rfl 30 (.tmp 7) (.tmp 24) rfl w3.heap.size zArr (bvs m).toArray 30 rfl rfl (heap_alloc_last _ _) (by rw [HMS.out]; exact size_sec) (by rw [HMS.out, zArr_size]) (sec_one _) ?_))
  rw [World.setRow_alloc_new]
  have hS4 : SecAt (w3.alloc (.cells (bvs m).toArray 30 (0, 0))) w3.heap.size 30 m := heap_alloc_last w3 _
  have hB4 : Below w1.heap.size w1 (w3.alloc (.cells (bvs m).toArray 30 (0, 0))) := HB3.out.alloc HB3.out.size _
  have hgw : w1.heap.size ≤ w3.heap.size := HB3.out.size
  revert hS4 hB4
  generalize w3.alloc (.cells (bvs m).toArray 30 (0, 0)) = w4
  revert hgw
  generalize w3.heap.size = g
  intro hgw hS4 hB4
  have hG4 := heap_keep HG1.out hB4
  have c0 : w4.cell? ⟨w.heap.size, 0, none⟩ = some (.int .i64 a0) := by rw [cell_row hG4]; rfl
  have HG4 := Lib.hid hG4
  have HB4 := Lib.hid (bnext HB1.out hB4)
  have HS4 := Lib.hid hS4
  have HGG : Hid (w.heap.size < g) := by have h1 := (Array.getElem?_eq_some_iff.1 HG1.out).1; unfold Hid; omega
  clear hS4 hB4 HB3 HMK HB1 HG1 hG4 hgw
  cases hmb : mayB kind l' with
  | false =>
    obtain rfl : me = 1 := by rw [HME.out]; unfold makeE; rw [hmb]; rfl
    go_wp2
    go_ret
    exact ⟨rfl, HB4.out⟩
  | true =>
    obtain rfl : me = 0 := by rw [HME.out]; unfold makeE; rw [hmb]; rfl
    have hms : m = sealS kind l' := by rw [HM.out]; unfold makeS; rw [hmb]; rfl
    have HMSS := Lib.hid hms
    clear hms
    go_upto_region 9 with fail
    obtain ⟨i, hi, hie⟩ := turn_at a0
    rw [hie]
    clear hie
    obtain ⟨x, hx⟩ : ∃ x, x = UInt8.ofNat (a1 % 256).toNat := ⟨_, rfl⟩
    have hxi : a1 % 256 = (x.toNat : Int) := by rw [hx]; simp; omega
    have HXI := Lib.hid hxi
    clear hx hxi
    have c1 : w4.cell? ⟨w.heap.size, 1, none⟩ = some (.int .i64 a1) := by rw [cell_row HG4.out]; rfl
    obtain ⟨y, hy⟩ : ∃ y, y = m.getD i 0 := ⟨_, rfl⟩
    have cy : w4.cell? ⟨g, i, none⟩ = some (.int .u8 (y.toNat : Int)) := by
      rw [cell_row HS4.out, List.getElem?_toArray, bvs_get _ _ (by rw [HML.out]; exact hi), hy]
    have hfr : w4.frozen? ⟨g, i, none⟩ = false := free_row HS4.out _
    have hst : w4.setCell ⟨g, i, none⟩ (.int .u8 (x.toNat : Int)) = w4.setRow g (bvs (m.set i x)).toArray := by
      rw [setCell_row HS4.out, List.setIfInBounds_toArray]
      have := bvs_set m i x
      rw [← this]; rfl
    have HST := Lib.hid hst
    have HYE := Lib.hid hy
    have HI := Lib.hid hi
    have hzi : (0 : Int) ≤ (i : Int) := by omega
    have hzi2 : (i : Int) < 128 := by omega
    clear hst hy
    go_upto_region 11 with fail
    rw [HXI.out, HST.out]
    clear cy hfr c0 c1
    have hS5 : SecAt (w4.setRow g (bvs (m.set i x)).toArray) g 30 (m.set i x) := setRow_heap _ _ _ _ _ _ HS4.out
    have hB5 : Below w.heap.size w (w4.setRow g (bvs (m.set i x)).toArray) := HB4.out.trans ⟨rfl, rfl, rfl, by rw [setRow_size]; exact Nat.le_refl _, fun k hk => setRow_other _ _ _ _ (by have := HGG.out; omega)⟩
    have hml2 : (m.set i x).length = 128 := by rw [List.length_set]; exact HML.out
    have hx2 : (m.set i x).getD i 0 = x := by simp only [List.getD_eq_getElem?_getD]; rw [List.getElem?_set_self (by rw [HML.out]; exact hi)]; rfl
    have hoo : openB (m.set i x) = decide (y = x) := by
      by_cases hyx : y = x
      · rw [decide_eq_true hyx, ← hyx, HYE.out]
        have : m.set i (m.getD i 0) = m := by
          apply List.ext_getElem?
          intro j
          rw [List.getElem?_set]
          by_cases hj : i = j
          · subst hj
            simp [List.getElem?_eq_getElem (show i < m.length by rw [HML.out]; exact hi), HML.out, hi]
          · rw [if_neg hj]
        rw [this, HMSS.out]
        exact open_seal kind l' hmb
      · rw [decide_eq_false hyx, HMSS.out]
        exact open_turned kind l' hmb i hi x (by rw [← HMSS.out, ← HYE.out]; exact hyx)
    revert hS5 hB5 hml2 hx2 hoo
    generalize w4.setRow g (bvs (m.set i x)).toArray = w5
    generalize m.set i x = m2
    intro hS5 hB5 hml2 hx2 hoo
    have HMS2 : Hid ((bvs m2).toArray.size = 128) := by unfold Hid; rw [secV_size, hml2]
    have HOP := Lib.hid (open_any m2 w5 hml2)
    have HIS : ∀ w', Hid (Calls Try.prog 16 #[.agg (bvs m2).toArray, .int .u8 (kind.toNat : Int)] w' fun e w'' => e = .returned (.bool (openB m2 && decide (m2.getD 2 0 = kind))) ∧ Below w'.heap.size w' w'') := fun w' => is_any m2 kind w' hml2
    have cx : w5.cell? ⟨g, i, none⟩ = some (.int .u8 (x.toNat : Int)) := by
      rw [cell_row hS5, List.getElem?_toArray, bvs_get _ _ (by rw [hml2]; exact hi), hx2]
    have hgs : g < w5.heap.size := (Array.getElem?_eq_some_iff.1 hS5).1
    have HS5 := Lib.hid hS5
    have HB5 := Lib.hid hB5
    have HGS := Lib.hid hgs
    have HCX := Lib.hid cx
    clear hS5 hB5 hml2 hx2 HS4 HB4 HST HML cx hgs HMS
    unfold secV at HOP
    by_cases hyx : y = x
    · rw [decide_eq_true hyx] at hoo
      subst hyx
      have he : openE m2 = 0 := by unfold openE; rw [hoo]; rfl
      rw [he] at HOP
      have hyy : ((y.toNat : Int) == (y.toNat : Int)) = true := by simp
      clear hoo he HIS
      go_wp2_with (first
        | (refine wpList_load_row rfl 30 (.tmp 7) rfl g rfl _ _ _ _ HS5.out Try.underlying30 rfl (by rw [HMS2.out]; exact size_sec) ?_)
        | (go_at_call 15; refine HOP.out.mono ?_; rintro e w8 ⟨v8, rfl, ho8, hb8⟩; have c8 := (hb8.cell (p := ⟨g, i, none⟩) HGS.out).trans HCX.out; have HB8 := Lib.hid (bnext HB5.out hb8); clear ho8 hb8))
      go_ret
      exact ⟨rfl, HB8.out⟩
    · rw [decide_eq_false hyx] at hoo
      have he : openE m2 = 21 := by unfold openE; rw [hoo]; rfl
      have hk : openK m2 = 0 := by unfold openK; rw [hoo]; rfl
      have hL : openL m2 = [] := by unfold openL; rw [hoo]; rfl
      rw [he, hk, hL] at HOP
      rw [hoo, Bool.false_and] at HIS
      have hxy : ((x.toNat : Int) == (y.toNat : Int)) = false := by
        simp only [beq_eq_false_iff_ne, ne_eq, Int.natCast_inj]
        exact fun h => hyx (UInt8.toNat_inj.1 h.symm)
      clear hoo he hk hL hyx
      go_wp2_with (first
        | (refine wpList_load_row rfl 30 (.tmp 7) rfl g rfl _ _ _ _ HS5.out Try.underlying30 rfl (by rw [HMS2.out]; exact size_sec) ?_)
        | (go_at_call 15; refine HOP.out.mono ?_; rintro e w8 ⟨v8, rfl, ho8, hb8⟩; have c8 := (hb8.cell (p := ⟨g, i, none⟩) HGS.out).trans HCX.out; have HS8 := Lib.hid (HS5.out.keep hb8); have HB8 := Lib.hid (bnext HB5.out hb8); obtain ⟨sp8, cp8, rfl⟩ := byt_form (own_byt ho8).1; clear ho8 hb8)
        | (refine wpList_load_row_g rfl 30 (.tmp 7) rfl g rfl _ _ _ _ HS8.out Try.underlying30 rfl (by rw [HMS2.out]; exact size_sec) ?_)
        | (go_at_call 16; refine (HIS _).out.mono ?_; rintro e w9 ⟨rfl, h9⟩; have HB9 := Lib.hid (bnext HB8.out h9); clear h9))
      go_ret
      exact ⟨rfl, HB9.out⟩
end Go.Proofs.Ytljdgcchdmiadaa
