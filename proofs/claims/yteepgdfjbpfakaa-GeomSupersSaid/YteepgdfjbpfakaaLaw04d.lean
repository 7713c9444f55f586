/-
  The walk of GeomSupers.
-/
import Derived.Test.YteepgdfjbpfakaaGeomG
import Derived.Test.YteepgdfjbpfakaaLaw04
namespace Go.Proofs.Yteepgdfjbpfakaa
open Go.RowKit
set_option linter.unusedVariables false
set_option linter.unusedSimpArgs false
def SecAt (w : World) (g : Nat) (t : Nat) (l : List UInt8) : Prop := w.heap[g]? = some (.cells (bvs l).toArray t (0, 0))
theorem SecAt.keep {w w' : World} {g t : Nat} {l : List UInt8} (h : SecAt w g t l) (hb : Below w.heap.size w w') : SecAt w' g t l := heap_keep h hb
theorem SecAt.range {w : World} {g t : Nat} {l : List UInt8} (h : SecAt w g t l) : w.rangeAt g 0 (bvs l) := fun j v hv => by
  rw [Nat.zero_add, cell_row h, List.getElem?_toArray, hv]
theorem sup_read (s g i : Nat) (hs : s < 4294967296) (hg : g < 4294967296) (hi : i < 4294967296) (hm : gMay s g i = true) :
    rdV (sealS 1 (supB s g i)) = geomV s g i ∧ rdE (sealS 1 (supB s g i)) = 0 := by
  have hl : (supB s g i).length ≤ 120 := by rw [supB_length]; decide
  have hmb : mayB 1 (supB s g i) = true := (mayB_iff _ _).2 ⟨by decide, hl⟩
  have ho := open_seal 1 (supB s g i) hmb
  have hk : openK (sealS 1 (supB s g i)) = 1 := by unfold openK; rw [ho]; exact seal_at2 _ _
  have hL : openL (sealS 1 (supB s g i)) = supB s g i := by unfold openL; rw [ho]; exact bodyOf_seal _ _ hl
  have e0 : rdN (sealS 1 (supB s g i)) 0 = s := by
    unfold rdN; rw [hL]; unfold part supB
    rw [Nat.mul_zero, List.drop_zero, List.append_assoc, List.take_append_of_le_length (by simp), List.take_of_length_le (by simp)]
    exact leNat_le_of 4 s hs
  have e1 : rdN (sealS 1 (supB s g i)) 1 = g := by
    unfold rdN; rw [hL]; unfold part supB
    rw [Nat.mul_one, List.append_assoc, List.drop_append_of_le_length (by simp), List.drop_of_length_le (by simp), List.nil_append, List.take_append_of_le_length (by simp), List.take_of_length_le (by simp)]
    exact leNat_le_of 4 g hg
  have e2 : rdN (sealS 1 (supB s g i)) 2 = i := by
    unfold rdN; rw [hL]; unfold part supB
    rw [show 4 * 2 = (le 4 s ++ le 4 g).length by simp, List.drop_append_of_le_length (Nat.le_refl _), List.drop_of_length_le (Nat.le_refl _), List.nil_append, List.take_of_length_le (by simp)]
    exact leNat_le_of 4 i hi
  have hb : rdB (sealS 1 (supB s g i)) = true := by
    unfold rdB rdOk
    rw [ho, hk, hL, supB_length, e0, e1, e2, hm]; rfl
  obtain ⟨h1, h2⟩ := rd_yes hb
  rw [e0, e1, e2] at h1
  exact ⟨h1, h2⟩
theorem rdV_form (l : List UInt8) : ∃ x y z : Nat, rdV l = geomV x y z := by
  cases h : rdB l with
  | true => exact ⟨_, _, _, (rd_yes h).1⟩
  | false => exact ⟨0, 0, 0, (rd_no h).1⟩
set_option maxHeartbeats 8000000 in
set_option maxRecDepth 10000 in
theorem geomSupers_walk (s g i : Int) (v : Value) (l : List UInt8) (sl : Bool) (w : World) (hn : l.length ≤ 140737488351232) (hv : Byt w v l) :
    Calls Try.prog 6 #[geomV s g i, v, .bool sl] w (RetT w true) := by
  have hbox := (Below.refl w.heap.size w).alloc (Nat.le_refl _) (.cells #[.int .i64 s, .int .i64 g, .int .i64 i] 23 (0, 0))
  have hA := at3_new w 23 s g i
  have HV := Lib.hid (hv.below hbox)
  have hza := zero_arr
  have hz := zero_sec
  clear hv
  unfold geomV
  go_enter Try.func6, Try.ntmps6
  go_upto_region 3 with (go_at_call 7; refine (awake04 _).mono ?_; rintro e w1 ⟨rfl, hb1⟩)
  have hA1 := hA.below hb1
  have HB1 := Lib.hid (bnext hbox hb1)
  have HV1 := Lib.hid (HV.out.below hb1)
  clear hA hbox hb1 HV
  have hmay : ∃ b, (∀ w', Calls Try.prog 10 #[geomV s g i] w' (RetT w' b)) ∧ (b = true → ∃ s' g' i' : Nat, s = s' ∧ g = g' ∧ i = i' ∧ s' < 4294967296 ∧ g' < 4294967296 ∧ i' < 4294967296 ∧ gMay s' g' i' = true) := by
    cases h : gIn s g i with
    | false => exact ⟨false, fun w' => rmay_out s g i w' h, fun h => by cases h⟩
    | true =>
      have h' := h
      unfold gIn at h'
      simp only [decide_eq_true_eq] at h'
      obtain ⟨s', rfl⟩ := Int.eq_ofNat_of_zero_le (show 0 ≤ s by omega)
      obtain ⟨g', rfl⟩ := Int.eq_ofNat_of_zero_le (show 0 ≤ g by omega)
      obtain ⟨i', rfl⟩ := Int.eq_ofNat_of_zero_le (show 0 ≤ i by omega)
      exact ⟨gMay s' g' i', fun w' => rmay_any s' g' i' w', fun hm => ⟨s', g', i', rfl, rfl, rfl, by omega, by omega, by omega, hm⟩⟩
  obtain ⟨mb, hmc, hmt⟩ := hmay
  have HMC := fun w' => Lib.hid (hmc w')
  have HMT := Lib.hid hmt
  obtain ⟨c0, c1, c2⟩ := hA1
  clear hmc hmt
  unfold geomV at HMC
  go_upto_if 18 with (go_at_call 10; refine (HMC _).out.mono ?_; rintro e w2 ⟨rfl, hb2⟩; have hA2 := At3.below ⟨c0, c1, c2⟩ hb2; have HB2 := Lib.hid (bnext HB1.out hb2); have HV2 := Lib.hid (HV1.out.below hb2); clear hb2 HB1 HV1 c0 c1 c2)
  have HA2 := Lib.hid hA2
  clear hA2 HMC
  go_cut [] (fun wc => Hid (Below w.heap.size w wc) ∧ Hid (Byt wc v l))
  case first =>
    cases mb with
    | false =>
      go_wp2
      go_meet
      case rel => exact ⟨HB2, HV2⟩
    | true =>
      obtain ⟨s', g', i', rfl, rfl, rfl, h1, h2, h3, hm⟩ := HMT.out rfl
      obtain ⟨c0, c1, c2⟩ := HA2.out
      have hsl := sealS_length 1 (supB s' g' i') (by rw [supB_length]; decide)
      obtain ⟨r1, r2⟩ := sup_read s' g' i' h1 h2 h3 hm
      have HSU := fun w' => Lib.hid (gsuper_any s' g' i' w' h1 h2 h3)
      have HRS := fun w' => Lib.hid (rsuper_any s' g' i' w' h1 h2 h3)
      obtain ⟨m, hmd⟩ : ∃ m, m = sealS 1 (supB s' g' i') := ⟨_, rfl⟩
      rw [← hmd] at r1 r2 hsl
      have HSU' : ∀ w', Hid (Calls Try.prog 29 #[.agg #[.int .i64 (s' : Int), .int .i64 (g' : Int), .int .i64 (i' : Int)]] w' fun e w'' => e = .returned (.agg (bvs m).toArray) ∧ Below w'.heap.size w' w'') := fun w' => by rw [hmd]; exact HSU w'
      have HRS' : ∀ w', Hid (Calls Try.prog 31 #[.agg #[.int .i64 (s' : Int), .int .i64 (g' : Int), .int .i64 (i' : Int)]] w' fun e w'' => e = .returned (.agg (bvs m).toArray) ∧ Below w'.heap.size w' w'') := fun w' => by rw [hmd]; exact HRS w'
      have HOW : ∀ w', Hid (Calls Try.prog 8 #[.agg #[.int .i64 (s' : Int), .int .i64 (g' : Int), .int .i64 (i' : Int)]] w' fun e w'' => e = .returned (.agg #[.int .i64 (s' : Int), .int .i64 (g' : Int), .int .i64 (i' : Int)]) ∧ Below w'.heap.size w' w'') := fun w' => own_any s' g' i' w'
      have HRD : ∀ w', Hid (Calls Try.prog 30 #[.agg (bvs m).toArray] w' fun e w'' => e = .returned (.tuple #[.agg #[.int .i64 (s' : Int), .int .i64 (g' : Int), .int .i64 (i' : Int)], .int .i64 0]) ∧ Below w'.heap.size w' w'') := fun w' => by
        have q := gread_any m w' hsl
        rw [r1, r2] at q
        exact q
      have HMS : Hid ((bvs m).toArray.size = 128) := by unfold Hid; rw [secV_size, hsl]
      have HML := Lib.hid hsl
      have heq : ∀ W : World, (Op.equalIn 10000 47 (.agg (bvs m).toArray) (.agg (bvs m).toArray)).run Try.prog W = .ok true W := fun W => by have q := equal_sector W m m HML.out HML.out; rw [decide_eq_true (show m = m from rfl)] at q; exact q
      clear hsl r1 r2 HSU HRS hmd h1 h2 h3 hm
      go_upto_region 5 with (first
        | (go_at_call 8; refine (HOW _).out.mono ?_; rintro e w3 ⟨rfl, hb3⟩; have HA3 := Lib.hid (HA2.out.below hb3); have HB3 := Lib.hid (bnext HB2.out hb3); have HV3 := Lib.hid (HV2.out.below hb3); clear hb3)
        | (go_at_call 29; refine (HSU' _).out.mono ?_; rintro e w4 ⟨rfl, hb4⟩; have HA4 := Lib.hid (HA3.out.below hb4); have HB4 := Lib.hid (bnext HB3.out hb4); have HV4 := Lib.hid (HV3.out.below hb4); clear hb4)
        | (refine wpList_store_row rfl 47 (.tmp 7) (.tmp 21) rfl w4.heap.size zArr (bvs m).toArray 47 rfl rfl (heap_alloc_last _ _) (by rw [HMS.out]; exact size_sec) (by rw [HMS.out, zArr_size]) (sec_one _) ?_))
      rw [World.setRow_alloc_new]
      have hS5 : SecAt (w4.alloc (.cells (bvs m).toArray 47 (0, 0))) w4.heap.size 47 m := heap_alloc_last w4 _
      have hb5 : Below w4.heap.size w4 (w4.alloc (.cells (bvs m).toArray 47 (0, 0))) := (Below.refl _ _).alloc (Nat.le_refl _) _
      have hA5 := HA4.out.below hb5
      have hB5 := bnext HB4.out hb5
      have hV5 := HV4.out.below hb5
      clear hb5 HA4 HB4 HV4 HA3 HB3 HV3 c0 c1 c2
      revert hS5 hA5 hB5 hV5
      generalize w4.alloc (.cells (bvs m).toArray 47 (0, 0)) = w5
      generalize w4.heap.size = p7
      intro hS5 hA5 hB5 hV5
      have HS5 := Lib.hid hS5
      have HA5 := Lib.hid hA5
      have HB5 := Lib.hid hB5
      have HV5 := Lib.hid hV5
      clear hS5 hA5 hB5 hV5
      go_upto_region 6 with (first
        | (refine wpList_load_row rfl 47 (.tmp 7) rfl p7 rfl _ _ _ _ HS5.out Try.underlying47 rfl (by rw [HMS.out]; exact size_sec) ?_)
        | (go_at_call 30; refine (HRD _).out.mono ?_; rintro e w6 ⟨rfl, hb6⟩; have HA6 := Lib.hid (HA5.out.below hb6); have HB6 := Lib.hid (bnext HB5.out hb6); have HV6 := Lib.hid (HV5.out.below hb6); have HS6 := Lib.hid (HS5.out.keep hb6); clear hb6))
      have h87 := heap_alloc_last w6 (.cells #[.int .i64 (s' : Int), .int .i64 (g' : Int), .int .i64 (i' : Int)] 25 (0, 0))
      have hb7 : Below w6.heap.size w6 (w6.alloc (.cells #[.int .i64 (s' : Int), .int .i64 (g' : Int), .int .i64 (i' : Int)] 25 (0, 0))) := (Below.refl _ _).alloc (Nat.le_refl _) _
      have hA7 := HA6.out.below hb7
      have hB7 := bnext HB6.out hb7
      have hV7 := HV6.out.below hb7
      have hS7 := HS6.out.keep hb7
      have hC7 : At3 w6.heap.size s' g' i' (w6.alloc (.cells #[.int .i64 (s' : Int), .int .i64 (g' : Int), .int .i64 (i' : Int)] 25 (0, 0))) := ⟨cell_row h87 0, cell_row h87 1, cell_row h87 2⟩
      clear hb7 h87 HA6 HB6 HV6 HS6 HS5 HA5 HB5 HV5
      revert hA7 hB7 hV7 hS7 hC7
      generalize w6.alloc (.cells #[.int .i64 (s' : Int), .int .i64 (g' : Int), .int .i64 (i' : Int)] 25 (0, 0)) = w7
      generalize w6.heap.size = p8
      intro hA7 hB7 hV7 hS7 hC7
      have HB7 := Lib.hid hB7
      have HV7 := Lib.hid hV7
      have hS : (fun w' : World => w'.rangeAt p7 0 (bvs m) ∧ w'.cell? ⟨w.heap.size, 0, none⟩ = some (.int .i64 (s' : Int)) ∧ w'.cell? ⟨w.heap.size, 1, none⟩ = some (.int .i64 (g' : Int)) ∧ w'.cell? ⟨w.heap.size, 2, none⟩ = some (.int .i64 (i' : Int)) ∧ w'.cell? ⟨p8, 0, none⟩ = some (.int .i64 (s' : Int)) ∧ w'.cell? ⟨p8, 1, none⟩ = some (.int .i64 (g' : Int)) ∧ w'.cell? ⟨p8, 2, none⟩ = some (.int .i64 (i' : Int))) w7.drew :=
        ⟨hS7.range, hA7.1, hA7.2.1, hA7.2.2, hC7.1, hC7.2.1, hC7.2.2⟩
      have HSK : Hid (∀ w', Below w7.heap.size w7.drew w' → (w'.rangeAt p7 0 (bvs m) ∧ w'.cell? ⟨w.heap.size, 0, none⟩ = some (.int .i64 (s' : Int)) ∧ w'.cell? ⟨w.heap.size, 1, none⟩ = some (.int .i64 (g' : Int)) ∧ w'.cell? ⟨w.heap.size, 2, none⟩ = some (.int .i64 (i' : Int)) ∧ w'.cell? ⟨p8, 0, none⟩ = some (.int .i64 (s' : Int)) ∧ w'.cell? ⟨p8, 1, none⟩ = some (.int .i64 (g' : Int)) ∧ w'.cell? ⟨p8, 2, none⟩ = some (.int .i64 (i' : Int)))) := fun w' hb => by
        have k1 := SecAt.keep (w := w7.drew) hS7 hb
        have k2 := At3.below (w := w7.drew) hA7 hb
        have k3 := At3.below (w := w7.drew) hC7 hb
        exact ⟨k1.range, k2.1, k2.2.1, k2.2.2, k3.1, k3.2.1, k3.2.2⟩
      have hinfo : (Try.prog.info? 47).map (·.size) = some (bvs m).length := by rw [bvs_length, HML.out]; exact size_sec
      have hund := Try.underlying47
      clear hA7 hB7 hV7 hS7 hC7
      go_region_held3 (fun w' => w'.rangeAt p7 0 (bvs m) ∧ w'.cell? ⟨w.heap.size, 0, none⟩ = some (.int .i64 (s' : Int)) ∧ w'.cell? ⟨w.heap.size, 1, none⟩ = some (.int .i64 (g' : Int)) ∧ w'.cell? ⟨w.heap.size, 2, none⟩ = some (.int .i64 (i' : Int)) ∧ w'.cell? ⟨p8, 0, none⟩ = some (.int .i64 (s' : Int)) ∧ w'.cell? ⟨p8, 1, none⟩ = some (.int .i64 (g' : Int)) ∧ w'.cell? ⟨p8, 2, none⟩ = some (.int .i64 (i' : Int))) (first | exact hS | exact s9 | exact s8)
        (first
          | (go_at_call 8; refine (HOW _).out.mono ?_; rintro e w9 ⟨rfl, hb9⟩; have HB9 := Lib.hid (HB8.out.trans (hb9.mono HB8.out.size)); have s9 := HSK.out _ HB9.out)
          | (go_at_call 31; refine (HRS' _).out.mono ?_; rintro e w8 ⟨rfl, hb8⟩; have HB8 : Hid (Below w7.heap.size w7.drew w8) := Lib.hid hb8; have s8 := HSK.out _ HB8.out))
      have hd7 : Below w7.heap.size w7 w9 := ⟨HB9.out.os, HB9.out.tape, HB9.out.output, HB9.out.size, HB9.out.block⟩
      have HE9 := Lib.hid (bnext HB7.out hd7)
      have HF9 := Lib.hid (HV7.out.below hd7)
      clear hd7 s8 s9 hS hinfo hund
      go_wp2
      go_meet
      case rel => exact ⟨HE9, HF9⟩
  case rest =>
  obtain ⟨HBC, HVC⟩ := hcut
  clear HA2 HB2 HV2 HMT
  have hlf := full_length l
  have HFU := Lib.hid (full_any v l wc (by omega) HVC.out)
  obtain ⟨f, hfd⟩ : ∃ f, f = full l := ⟨_, rfl⟩
  rw [← hfd] at HFU hlf
  have HFS : Hid ((bvs f).toArray.size = 128) := by unfold Hid; rw [secV_size, hlf]
  have HLF := Lib.hid hlf
  have HN := Lib.hid hn
  clear hfd hlf hn
  unfold secV at HFU
  obtain ⟨sp, cp, rfl, hspp⟩ : ∃ sp cp, v = .slice sp l.length cp ∧ (0 < l.length → ∃ bk o, sp = some ⟨bk, o, none⟩ ∧ RdB wc bk o l) := by
    rcases HVC.out with ⟨rfl, A, c, rfl, _⟩ | ⟨b, o, c, rfl, _, _, hr⟩
    · exact ⟨A, c, rfl, fun h => by simp at h⟩
    · exact ⟨_, c, rfl, fun _ => ⟨b, o, rfl, hr⟩⟩
  have HSP := Lib.hid hspp
  clear hspp
  go_upto_region 9 with (first
    | (go_at_call 32; refine HFU.out.mono ?_; rintro e w10 ⟨rfl, hb10⟩; have HB10 := Lib.hid (bnext HBC.out hb10); have HV10 := Lib.hid (HVC.out.below hb10); have HK10 := Lib.hid hb10; clear hb10)
    | (refine wpList_store_row rfl 46 (.tmp 10) (.tmp 42) rfl w10.heap.size zArr (bvs f).toArray 46 rfl rfl (heap_alloc_last _ _) (by rw [HFS.out]; exact size_arr) (by rw [HFS.out, zArr_size]) (sec_one _) ?_))
  rw [World.setRow_alloc_new]
  have hS5 : SecAt (w10.alloc (.cells (bvs f).toArray 46 (0, 0))) w10.heap.size 46 f := heap_alloc_last w10 _
  have hb5 : Below w10.heap.size w10 (w10.alloc (.cells (bvs f).toArray 46 (0, 0))) := (Below.refl _ _).alloc (Nat.le_refl _) _
  have hB5 := bnext HB10.out hb5
  have hV5 := HV10.out.below hb5
  have hK5 := bnext HK10.out hb5
  have hpp : w.heap.size ≤ w10.heap.size := HB10.out.size
  clear hb5 HB10 HV10 HK10 HFU
  revert hS5 hB5 hV5 hK5 hpp
  generalize w10.alloc (.cells (bvs f).toArray 46 (0, 0)) = w5
  generalize w10.heap.size = p
  intro hS5 hB5 hV5 hK5 hpp
  have HS5 := Lib.hid hS5
  have HB5 := Lib.hid hB5
  have HV5 := Lib.hid hV5
  have HK5 := Lib.hid hK5
  have HPP := Lib.hid hpp
  clear hS5 hB5 hV5 hK5 hpp HBC HVC
  have hcase : (sl = false ∨ (sl = true ∧ l.length = 0) ∨ (sl = true ∧ 120 < l.length)) ∨ (sl = true ∧ 0 < l.length ∧ l.length ≤ 120) := by
    cases sl
    · exact .inl (.inl rfl)
    · by_cases h0 : l.length = 0
      · exact .inl (.inr (.inl ⟨rfl, h0⟩))
      · by_cases h1 : 120 < l.length
        · exact .inl (.inr (.inr ⟨rfl, h1⟩))
        · exact .inr ⟨rfl, by omega, by omega⟩
  have hn47 : l.length ≤ 140737488351232 := HN.out
  rcases hcase with (rfl | ⟨rfl, h0⟩ | ⟨rfl, h0⟩) | ⟨rfl, h0, h1⟩
  rotate_left 3
  · obtain ⟨bk, o, rfl, hrd⟩ := HSP.out h0
    have hcell : w5.cell? ⟨bk, o, none⟩ = some (.int .u8 ((l.getD 0 0).toNat : Int)) := (hrd.below HK5.out) 0 h0
    obtain ⟨x, hx⟩ : ∃ x, x = l.getD 0 0 := ⟨_, rfl⟩
    rw [← hx] at hcell
    have HRM := Lib.hid (rmake_any x _ l w5 HV5.out)
    have hml := makeS_length x l
    obtain ⟨m, hm⟩ : ∃ m, m = makeS x l := ⟨_, rfl⟩
    rw [← hm] at HRM hml
    have HMS : Hid ((bvs m).toArray.size = 128) := by unfold Hid; rw [secV_size, hml]
    have HML := Lib.hid hml
    have hi0 : (0 : Int) < (l.length : Int) := by omega
    have hi1 : (l.length : Int) ≤ 120 := by omega
    clear hx hm hml hrd h0 h1
    unfold secV at HRM
    go_upto_region 11 with (first
      | (go_at_call 33; refine HRM.out.mono ?_; rintro e w6 ⟨rfl, hb6⟩; have HS6 := Lib.hid (HS5.out.keep hb6); have HB6 := Lib.hid (bnext HB5.out hb6); clear hb6)
      | (refine wpList_store_row rfl 46 (.tmp 10) (.tmp 60) rfl p (bvs f).toArray (bvs m).toArray 46 rfl rfl HS6.out (by rw [HMS.out]; exact size_arr) (by rw [HMS.out, HFS.out]) (sec_one _) ?_))
    have hBX : Below w.heap.size w (w6.setRow p (bvs m).toArray) := HB6.out.trans ⟨rfl, rfl, rfl, by rw [setRow_size]; exact Nat.le_refl _, fun k hk => setRow_other _ _ _ _ (by have := HPP.out; omega)⟩
    have hSX : SecAt (w6.setRow p (bvs m).toArray) p 46 m := setRow_heap _ _ _ _ _ _ HS6.out
    have hlX := HML.out
    revert hBX hSX hlX
    clear HS6 HB6 HRM HMS HML HS5 HB5 HV5
    generalize w6.setRow p (bvs m).toArray = wX
    generalize m = q
    intro hBX hSX hlX
    have HSX := Lib.hid hSX
    have HBX := Lib.hid hBX
    have HLX := Lib.hid hlX
    have HQS : Hid ((bvs q).toArray.size = 128) := by unfold Hid; rw [secV_size, hlX]
    clear hSX hBX hlX
    obtain ⟨x0, y0, z0, hxyz⟩ := rdV_form q
    have hgr := fun w' => gread_any q w' HLX.out
    have hrr := fun w' => rread_any q w' HLX.out
    rw [hxyz] at hgr hrr
    obtain ⟨re, hre⟩ : ∃ re, re = rdE q := ⟨_, rfl⟩
    obtain ⟨rb, hrb⟩ : ∃ rb, rb = rdB q := ⟨_, rfl⟩
    have HRE : Hid ((rb = true ∧ re = 0) ∨ (rb = false ∧ re = 21)) := by
      unfold Hid
      rw [hre, hrb]
      cases h : rdB q with
      | true => exact .inl ⟨rfl, (rd_yes h).2⟩
      | false => exact .inr ⟨rfl, (rd_no h).2⟩
    rw [← hre] at hgr
    rw [← hrb] at hrr
    have HGR := fun w' => Lib.hid (hgr w')
    have HRR := fun w' => Lib.hid (hrr w')
    have HOW : ∀ w', Hid (Calls Try.prog 8 #[.agg #[.int .i64 (x0 : Int), .int .i64 (y0 : Int), .int .i64 (z0 : Int)]] w' fun e w'' => e = .returned (.agg #[.int .i64 (x0 : Int), .int .i64 (y0 : Int), .int .i64 (z0 : Int)]) ∧ Below w'.heap.size w' w'') := fun w' => own_any x0 y0 z0 w'
    clear hgr hrr hre hrb hxyz
    unfold secV geomV at HGR HRR
    go_upto_region 12 with (first
      | (refine wpList_load_row rfl 46 (.tmp 10) rfl p rfl _ _ _ _ HSX.out Try.underlying46 rfl (by rw [HQS.out]; exact size_arr) ?_)
      | (go_at_call 30; refine (HGR _).out.mono ?_; rintro e wa ⟨rfl, hba⟩; have HSA := Lib.hid (HSX.out.keep hba); have HBA := Lib.hid (bnext HBX.out hba); clear hba))
    have h1a := heap_alloc_last wa (.cells #[.int .i64 (x0 : Int), .int .i64 (y0 : Int), .int .i64 (z0 : Int)] 25 (0, 0))
    have hbb : Below wa.heap.size wa (wa.alloc (.cells #[.int .i64 (x0 : Int), .int .i64 (y0 : Int), .int .i64 (z0 : Int)] 25 (0, 0))) := (Below.refl _ _).alloc (Nat.le_refl _) _
    have hSB := HSA.out.keep hbb
    have hBB := bnext HBA.out hbb
    have hCB : At3 wa.heap.size x0 y0 z0 (wa.alloc (.cells #[.int .i64 (x0 : Int), .int .i64 (y0 : Int), .int .i64 (z0 : Int)] 25 (0, 0))) := ⟨cell_row h1a 0, cell_row h1a 1, cell_row h1a 2⟩
    clear h1a hbb HSA HBA
    revert hSB hBB hCB
    generalize wa.alloc (.cells #[.int .i64 (x0 : Int), .int .i64 (y0 : Int), .int .i64 (z0 : Int)] 25 (0, 0)) = wb
    generalize wa.heap.size = p11
    intro hSB hBB hCB
    have HSB := Lib.hid hSB
    have HBB := Lib.hid hBB
    have HCB := Lib.hid hCB
    clear hSB hBB hCB
    go_upto_region 13 with (first
      | (refine wpList_load_row rfl 46 (.tmp 10) rfl p rfl _ _ _ _ HSB.out Try.underlying46 rfl (by rw [HQS.out]; exact size_arr) ?_)
      | (go_at_call 34; refine (HRR _).out.mono ?_; rintro e wd ⟨rfl, hbd⟩; have HCD := Lib.hid (HCB.out.below hbd); have HBD := Lib.hid (bnext HBB.out hbd); clear hbd))
    have h1e := heap_alloc_last wd (.cells #[.int .i64 (x0 : Int), .int .i64 (y0 : Int), .int .i64 (z0 : Int)] 23 (0, 0))
    have hbe : Below wd.heap.size wd (wd.alloc (.cells #[.int .i64 (x0 : Int), .int .i64 (y0 : Int), .int .i64 (z0 : Int)] 23 (0, 0))) := (Below.refl _ _).alloc (Nat.le_refl _) _
    have hCE := HCD.out.below hbe
    have hBE := bnext HBD.out hbe
    have hDE : At3 wd.heap.size x0 y0 z0 (wd.alloc (.cells #[.int .i64 (x0 : Int), .int .i64 (y0 : Int), .int .i64 (z0 : Int)] 23 (0, 0))) := ⟨cell_row h1e 0, cell_row h1e 1, cell_row h1e 2⟩
    clear h1e hbe HCD HBD HCB HBB HSB HSX HBX
    revert hCE hBE hDE
    generalize wd.alloc (.cells #[.int .i64 (x0 : Int), .int .i64 (y0 : Int), .int .i64 (z0 : Int)] 23 (0, 0)) = we
    generalize wd.heap.size = p13
    intro hCE hBE hDE
    rcases HRE.out with ⟨rfl, rfl⟩ | ⟨rfl, rfl⟩
    · have hS6 : At6 p11 p13 x0 y0 z0 we.drew := ⟨hCE, hDE⟩
      have HBE := Lib.hid hBE
      clear hCE hDE hBE HRE HGR HRR
      refine wp_region_held_drew (S := (fun w' => At6 p11 p13 x0 y0 z0 w')) (by kernel_rfl) (by exact hS6) (fun hHeld => ?_)
      refine take1_ (i := 0) (v := ?_) (a' := ?_) (some 72) #[true, false, false, false, false, false, false, false, false, false, false, false, false, false, false, false, false, false] rfl rfl (by kernel_rfl) (fun _ _ _ h => h) (Or.inl ⟨by rfl, ?_⟩) hHeld ?_ ?_
      rotate_left
      · (intro w hSw; (try dsimp only at hSw); obtain ⟨⟨s0, s1, s2⟩, s3, s4, s5⟩ := hSw; go_simp; (try with_reducible rfl))
      rotate_left
      · simp only [Act.put, List.setIfInBounds_toArray, List.set_cons_zero, List.set_cons_succ]
        rfl
      refine take1_ (i := 1) (v := ?_) (a' := ?_) (some 73) #[true, true, false, false, false, false, false, false, false, false, false, false, false, false, false, false, false, false] rfl rfl (by kernel_rfl) (fun _ _ _ h => h) (Or.inl ⟨by rfl, ?_⟩) hHeld ?_ ?_
      rotate_left
      · (intro w hSw; (try dsimp only at hSw); obtain ⟨⟨s0, s1, s2⟩, s3, s4, s5⟩ := hSw; go_simp; (try with_reducible rfl))
      rotate_left
      · simp only [Act.put, List.setIfInBounds_toArray, List.set_cons_zero, List.set_cons_succ]
        rfl
      refine loud1_ (i := 2) (some 74) #[true, true, true, false, false, false, false, false, false, false, false, false, false, false, false, false, false, false] rfl rfl (by kernel_rfl) (fun K hK => ?_)
      go_simp
      (go_at_call 8; refine (HOW _).out.mono ?_; rintro e x1 ⟨rfl, k1⟩)
      refine hK.out _ _ (by exact At6.below ‹_› ‹_›) (fun hHeld' => ?_)
      clear hK K hHeld
      have hHeld := hHeld'
      clear hHeld'
      try simp only [Act.put, List.setIfInBounds_toArray, List.set_cons_zero, List.set_cons_succ]
      refine take1_ (i := 3) (v := ?_) (a' := ?_) (some 75) #[true, true, true, true, false, false, false, false, false, false, false, false, false, false, false, false, false, false] rfl rfl (by kernel_rfl) (fun _ _ _ h => h) (Or.inl ⟨by rfl, ?_⟩) hHeld ?_ ?_
      rotate_left
      · (intro w hSw; (try dsimp only at hSw); obtain ⟨⟨s0, s1, s2⟩, s3, s4, s5⟩ := hSw; go_simp; (try with_reducible rfl))
      rotate_left
      · simp only [Act.put, List.setIfInBounds_toArray, List.set_cons_zero, List.set_cons_succ]
        rfl
      refine take1_ (i := 4) (v := ?_) (a' := ?_) (some 76) #[true, true, true, true, true, false, false, false, false, false, false, false, false, false, false, false, false, false] rfl rfl (by kernel_rfl) (fun _ _ _ h => h) (Or.inl ⟨by rfl, ?_⟩) hHeld ?_ ?_
      rotate_left
      · (intro w hSw; (try dsimp only at hSw); obtain ⟨⟨s0, s1, s2⟩, s3, s4, s5⟩ := hSw; go_simp; (try with_reducible rfl))
      rotate_left
      · simp only [Act.put, List.setIfInBounds_toArray, List.set_cons_zero, List.set_cons_succ]
        rfl
      refine take1_ (i := 5) (v := ?_) (a' := ?_) (some 77) #[true, true, true, true, true, true, false, false, false, false, false, false, false, false, false, false, false, false] rfl rfl (by kernel_rfl) (fun _ _ _ h => h) (Or.inl ⟨by rfl, ?_⟩) hHeld ?_ ?_
      rotate_left
      · (intro w hSw; (try dsimp only at hSw); obtain ⟨⟨s0, s1, s2⟩, s3, s4, s5⟩ := hSw; go_simp; (try with_reducible rfl))
      rotate_left
      · simp only [Act.put, List.setIfInBounds_toArray, List.set_cons_zero, List.set_cons_succ]
        rfl
      refine take1_ (i := 6) (v := ?_) (a' := ?_) (some 78) #[true, true, true, true, true, true, true, false, false, false, false, false, false, false, false, false, false, false] rfl rfl (by kernel_rfl) (fun _ _ _ h => h) (Or.inl ⟨by rfl, ?_⟩) hHeld ?_ ?_
      rotate_left
      · (intro w hSw; (try dsimp only at hSw); obtain ⟨⟨s0, s1, s2⟩, s3, s4, s5⟩ := hSw; go_simp; (try with_reducible rfl))
      rotate_left
      · simp only [Act.put, List.setIfInBounds_toArray, List.set_cons_zero, List.set_cons_succ]
        rfl
      refine take1_ (i := 7) (v := ?_) (a' := ?_) (some 79) #[true, true, true, true, true, true, true, true, false, false, false, false, false, false, false, false, false, false] rfl rfl (by kernel_rfl) (fun _ _ _ h => h) (Or.inl ⟨by rfl, ?_⟩) hHeld ?_ ?_
      rotate_left
      · (intro w hSw; (try dsimp only at hSw); obtain ⟨⟨s0, s1, s2⟩, s3, s4, s5⟩ := hSw; go_simp; (try with_reducible rfl))
      rotate_left
      · simp only [Act.put, List.setIfInBounds_toArray, List.set_cons_zero, List.set_cons_succ]
        rfl
      refine take1_ (i := 8) (v := ?_) (a' := ?_) (some 80) #[true, true, true, true, true, true, true, true, true, false, false, false, false, false, false, false, false, false] rfl rfl (by kernel_rfl) (fun _ _ _ h => h) (Or.inl ⟨by rfl, ?_⟩) hHeld ?_ ?_
      rotate_left
      · (intro w hSw; (try dsimp only at hSw); obtain ⟨⟨s0, s1, s2⟩, s3, s4, s5⟩ := hSw; go_simp; (try with_reducible rfl))
      rotate_left
      · simp only [Act.put, List.setIfInBounds_toArray, List.set_cons_zero, List.set_cons_succ]
        rfl
      refine take1_ (i := 9) (v := ?_) (a' := ?_) (some 81) #[true, true, true, true, true, true, true, true, true, true, false, false, false, false, false, false, false, false] rfl rfl (by kernel_rfl) (fun _ _ _ h => h) (Or.inl ⟨by rfl, ?_⟩) hHeld ?_ ?_
      rotate_left
      · (intro w hSw; (try dsimp only at hSw); obtain ⟨⟨s0, s1, s2⟩, s3, s4, s5⟩ := hSw; go_simp; (try with_reducible rfl))
      rotate_left
      · simp only [Act.put, List.setIfInBounds_toArray, List.set_cons_zero, List.set_cons_succ]
        rfl
      refine take1_ (i := 10) (v := ?_) (a' := ?_) (some 82) #[true, true, true, true, true, true, true, true, true, true, true, false, false, false, false, false, false, false] rfl rfl (by kernel_rfl) (fun _ _ _ h => h) (Or.inl ⟨by rfl, ?_⟩) hHeld ?_ ?_
      rotate_left
      · (intro w hSw; (try dsimp only at hSw); obtain ⟨⟨s0, s1, s2⟩, s3, s4, s5⟩ := hSw; go_simp; (try with_reducible rfl))
      rotate_left
      · simp only [Act.put, List.setIfInBounds_toArray, List.set_cons_zero, List.set_cons_succ]
        rfl
      refine take1_ (i := 11) (v := ?_) (a' := ?_) (some 83) #[true, true, true, true, true, true, true, true, true, true, true, true, false, false, false, false, false, false] rfl rfl (by kernel_rfl) (fun _ _ _ h => h) (Or.inl ⟨by rfl, ?_⟩) hHeld ?_ ?_
      rotate_left
      · (intro w hSw; (try dsimp only at hSw); obtain ⟨⟨s0, s1, s2⟩, s3, s4, s5⟩ := hSw; go_simp; (try with_reducible rfl))
      rotate_left
      · simp only [Act.put, List.setIfInBounds_toArray, List.set_cons_zero, List.set_cons_succ]
        rfl
      refine take1_ (i := 12) (v := ?_) (a' := ?_) (some 84) #[true, true, true, true, true, true, true, true, true, true, true, true, true, false, false, false, false, false] rfl rfl (by kernel_rfl) (fun _ _ _ h => h) (Or.inl ⟨by rfl, ?_⟩) hHeld ?_ ?_
      rotate_left
      · (intro w hSw; (try dsimp only at hSw); obtain ⟨⟨s0, s1, s2⟩, s3, s4, s5⟩ := hSw; go_simp; (try with_reducible rfl))
      rotate_left
      · simp only [Act.put, List.setIfInBounds_toArray, List.set_cons_zero, List.set_cons_succ]
        rfl
      refine off_ (by kernel_rfl) (fun _ _ d _ _ h => by cases d <;> exact h) hHeld [13, 14] [some 85, some 86] [(84, some true)] #[true, true, true, true, true, true, true, true, true, true, true, true, true, true, true, false, false, false] 3 rfl (by kernel_rfl) (by repeat (first | exact trivial | refine ⟨by rfl, ?_⟩)) (a' := ?_) ?_ ?_
      rotate_left
      · simp only [putOff, Act.put, List.setIfInBounds_toArray, List.set_cons_zero, List.set_cons_succ]
        rfl
      refine take1_ (i := 15) (v := ?_) (a' := ?_) (some 87) #[true, true, true, true, true, true, true, true, true, true, true, true, true, true, true, true, false, false] rfl rfl (by kernel_rfl) (fun _ _ _ h => h) (Or.inl ⟨by rfl, ?_⟩) hHeld ?_ ?_
      rotate_left
      · (intro w hSw; (try dsimp only at hSw); obtain ⟨⟨s0, s1, s2⟩, s3, s4, s5⟩ := hSw; go_simp; (try with_reducible rfl))
      rotate_left
      · simp only [Act.put, List.setIfInBounds_toArray, List.set_cons_zero, List.set_cons_succ]
        rfl
      refine take1_ (i := 16) (v := ?_) (a' := ?_) (some 88) #[true, true, true, true, true, true, true, true, true, true, true, true, true, true, true, true, true, false] rfl rfl (by kernel_rfl) (fun _ _ _ h => h) (Or.inl ⟨by rfl, ?_⟩) hHeld ?_ ?_
      rotate_left
      · (intro w hSw; (try dsimp only at hSw); obtain ⟨⟨s0, s1, s2⟩, s3, s4, s5⟩ := hSw; go_simp; (try with_reducible rfl))
      rotate_left
      · simp only [Act.put, List.setIfInBounds_toArray, List.set_cons_zero, List.set_cons_succ]
        rfl
      refine take1_ (i := 17) (v := ?_) (a' := ?_) (some 6) #[true, true, true, true, true, true, true, true, true, true, true, true, true, true, true, true, true, true] rfl rfl (by kernel_rfl) (fun _ _ _ h => h) (Or.inl ⟨by rfl, ?_⟩) hHeld ?_ ?_
      rotate_left
      · (intro w hSw; (try dsimp only at hSw); obtain ⟨⟨s0, s1, s2⟩, s3, s4, s5⟩ := hSw; go_simp; (try with_reducible rfl))
      rotate_left
      · simp only [Act.put, List.setIfInBounds_toArray, List.set_cons_zero, List.set_cons_succ]
        rfl
      refine wpAnyH_done (by kernel_rfl) ?_ _
      go_wp2
      go_ret
      exact ⟨rfl, bnext HBE.out.drew k1⟩
    · have hS6 : At6 p11 p13 x0 y0 z0 we.drew := ⟨hCE, hDE⟩
      have HBE := Lib.hid hBE
      clear hCE hDE hBE HRE HGR HRR
      refine wp_region_held_drew (S := (fun w' => At6 p11 p13 x0 y0 z0 w')) (by kernel_rfl) (by exact hS6) (fun hHeld => ?_)
      refine take1_ (i := 0) (v := ?_) (a' := ?_) (some 72) #[true, false, false, false, false, false, false, false, false, false, false, false, false, false, false, false, false, false] rfl rfl (by kernel_rfl) (fun _ _ _ h => h) (Or.inl ⟨by rfl, ?_⟩) hHeld ?_ ?_
      rotate_left
      · (intro w hSw; (try dsimp only at hSw); obtain ⟨⟨s0, s1, s2⟩, s3, s4, s5⟩ := hSw; go_simp; (try with_reducible rfl))
      rotate_left
      · simp only [Act.put, List.setIfInBounds_toArray, List.set_cons_zero, List.set_cons_succ]
        rfl
      refine take1_ (i := 1) (v := ?_) (a' := ?_) (some 73) #[true, true, false, false, false, false, false, false, false, false, false, false, false, false, false, false, false, false] rfl rfl (by kernel_rfl) (fun _ _ _ h => h) (Or.inl ⟨by rfl, ?_⟩) hHeld ?_ ?_
      rotate_left
      · (intro w hSw; (try dsimp only at hSw); obtain ⟨⟨s0, s1, s2⟩, s3, s4, s5⟩ := hSw; go_simp; (try with_reducible rfl))
      rotate_left
      · simp only [Act.put, List.setIfInBounds_toArray, List.set_cons_zero, List.set_cons_succ]
        rfl
      refine loud1_ (i := 2) (some 74) #[true, true, true, false, false, false, false, false, false, false, false, false, false, false, false, false, false, false] rfl rfl (by kernel_rfl) (fun K hK => ?_)
      go_simp
      (go_at_call 8; refine (HOW _).out.mono ?_; rintro e x1 ⟨rfl, k1⟩)
      refine hK.out _ _ (by exact At6.below ‹_› ‹_›) (fun hHeld' => ?_)
      clear hK K hHeld
      have hHeld := hHeld'
      clear hHeld'
      try simp only [Act.put, List.setIfInBounds_toArray, List.set_cons_zero, List.set_cons_succ]
      refine take1_ (i := 3) (v := ?_) (a' := ?_) (some 75) #[true, true, true, true, false, false, false, false, false, false, false, false, false, false, false, false, false, false] rfl rfl (by kernel_rfl) (fun _ _ _ h => h) (Or.inl ⟨by rfl, ?_⟩) hHeld ?_ ?_
      rotate_left
      · (intro w hSw; (try dsimp only at hSw); obtain ⟨⟨s0, s1, s2⟩, s3, s4, s5⟩ := hSw; go_simp; (try with_reducible rfl))
      rotate_left
      · simp only [Act.put, List.setIfInBounds_toArray, List.set_cons_zero, List.set_cons_succ]
        rfl
      refine take1_ (i := 4) (v := ?_) (a' := ?_) (some 76) #[true, true, true, true, true, false, false, false, false, false, false, false, false, false, false, false, false, false] rfl rfl (by kernel_rfl) (fun _ _ _ h => h) (Or.inl ⟨by rfl, ?_⟩) hHeld ?_ ?_
      rotate_left
      · (intro w hSw; (try dsimp only at hSw); obtain ⟨⟨s0, s1, s2⟩, s3, s4, s5⟩ := hSw; go_simp; (try with_reducible rfl))
      rotate_left
      · simp only [Act.put, List.setIfInBounds_toArray, List.set_cons_zero, List.set_cons_succ]
        rfl
      refine take1_ (i := 5) (v := ?_) (a' := ?_) (some 77) #[true, true, true, true, true, true, false, false, false, false, false, false, false, false, false, false, false, false] rfl rfl (by kernel_rfl) (fun _ _ _ h => h) (Or.inl ⟨by rfl, ?_⟩) hHeld ?_ ?_
      rotate_left
      · (intro w hSw; (try dsimp only at hSw); obtain ⟨⟨s0, s1, s2⟩, s3, s4, s5⟩ := hSw; go_simp; (try with_reducible rfl))
      rotate_left
      · simp only [Act.put, List.setIfInBounds_toArray, List.set_cons_zero, List.set_cons_succ]
        rfl
      refine take1_ (i := 6) (v := ?_) (a' := ?_) (some 78) #[true, true, true, true, true, true, true, false, false, false, false, false, false, false, false, false, false, false] rfl rfl (by kernel_rfl) (fun _ _ _ h => h) (Or.inl ⟨by rfl, ?_⟩) hHeld ?_ ?_
      rotate_left
      · (intro w hSw; (try dsimp only at hSw); obtain ⟨⟨s0, s1, s2⟩, s3, s4, s5⟩ := hSw; go_simp; (try with_reducible rfl))
      rotate_left
      · simp only [Act.put, List.setIfInBounds_toArray, List.set_cons_zero, List.set_cons_succ]
        rfl
      refine take1_ (i := 7) (v := ?_) (a' := ?_) (some 79) #[true, true, true, true, true, true, true, true, false, false, false, false, false, false, false, false, false, false] rfl rfl (by kernel_rfl) (fun _ _ _ h => h) (Or.inl ⟨by rfl, ?_⟩) hHeld ?_ ?_
      rotate_left
      · (intro w hSw; (try dsimp only at hSw); obtain ⟨⟨s0, s1, s2⟩, s3, s4, s5⟩ := hSw; go_simp; (try with_reducible rfl))
      rotate_left
      · simp only [Act.put, List.setIfInBounds_toArray, List.set_cons_zero, List.set_cons_succ]
        rfl
      refine take1_ (i := 8) (v := ?_) (a' := ?_) (some 80) #[true, true, true, true, true, true, true, true, true, false, false, false, false, false, false, false, false, false] rfl rfl (by kernel_rfl) (fun _ _ _ h => h) (Or.inl ⟨by rfl, ?_⟩) hHeld ?_ ?_
      rotate_left
      · (intro w hSw; (try dsimp only at hSw); obtain ⟨⟨s0, s1, s2⟩, s3, s4, s5⟩ := hSw; go_simp; (try with_reducible rfl))
      rotate_left
      · simp only [Act.put, List.setIfInBounds_toArray, List.set_cons_zero, List.set_cons_succ]
        rfl
      refine take1_ (i := 9) (v := ?_) (a' := ?_) (some 81) #[true, true, true, true, true, true, true, true, true, true, false, false, false, false, false, false, false, false] rfl rfl (by kernel_rfl) (fun _ _ _ h => h) (Or.inl ⟨by rfl, ?_⟩) hHeld ?_ ?_
      rotate_left
      · (intro w hSw; (try dsimp only at hSw); obtain ⟨⟨s0, s1, s2⟩, s3, s4, s5⟩ := hSw; go_simp; (try with_reducible rfl))
      rotate_left
      · simp only [Act.put, List.setIfInBounds_toArray, List.set_cons_zero, List.set_cons_succ]
        rfl
      refine take1_ (i := 10) (v := ?_) (a' := ?_) (some 82) #[true, true, true, true, true, true, true, true, true, true, true, false, false, false, false, false, false, false] rfl rfl (by kernel_rfl) (fun _ _ _ h => h) (Or.inl ⟨by rfl, ?_⟩) hHeld ?_ ?_
      rotate_left
      · (intro w hSw; (try dsimp only at hSw); obtain ⟨⟨s0, s1, s2⟩, s3, s4, s5⟩ := hSw; go_simp; (try with_reducible rfl))
      rotate_left
      · simp only [Act.put, List.setIfInBounds_toArray, List.set_cons_zero, List.set_cons_succ]
        rfl
      refine take1_ (i := 11) (v := ?_) (a' := ?_) (some 83) #[true, true, true, true, true, true, true, true, true, true, true, true, false, false, false, false, false, false] rfl rfl (by kernel_rfl) (fun _ _ _ h => h) (Or.inl ⟨by rfl, ?_⟩) hHeld ?_ ?_
      rotate_left
      · (intro w hSw; (try dsimp only at hSw); obtain ⟨⟨s0, s1, s2⟩, s3, s4, s5⟩ := hSw; go_simp; (try with_reducible rfl))
      rotate_left
      · simp only [Act.put, List.setIfInBounds_toArray, List.set_cons_zero, List.set_cons_succ]
        rfl
      refine take1_ (i := 12) (v := ?_) (a' := ?_) (some 84) #[true, true, true, true, true, true, true, true, true, true, true, true, true, false, false, false, false, false] rfl rfl (by kernel_rfl) (fun _ _ _ h => h) (Or.inl ⟨by rfl, ?_⟩) hHeld ?_ ?_
      rotate_left
      · (intro w hSw; (try dsimp only at hSw); obtain ⟨⟨s0, s1, s2⟩, s3, s4, s5⟩ := hSw; go_simp; (try with_reducible rfl))
      rotate_left
      · simp only [Act.put, List.setIfInBounds_toArray, List.set_cons_zero, List.set_cons_succ]
        rfl
      refine take1_ (i := 13) (v := ?_) (a' := ?_) (some 85) #[true, true, true, true, true, true, true, true, true, true, true, true, true, true, false, false, false, false] rfl rfl (by kernel_rfl) (fun _ _ _ h => h) (Or.inl ⟨by rfl, ?_⟩) hHeld ?_ ?_
      rotate_left
      · (intro w hSw; (try dsimp only at hSw); obtain ⟨⟨s0, s1, s2⟩, s3, s4, s5⟩ := hSw; go_simp; (try with_reducible rfl))
      rotate_left
      · simp only [Act.put, List.setIfInBounds_toArray, List.set_cons_zero, List.set_cons_succ]
        rfl
      refine take1_ (i := 14) (v := ?_) (a' := ?_) (some 86) #[true, true, true, true, true, true, true, true, true, true, true, true, true, true, true, false, false, false] rfl rfl (by kernel_rfl) (fun _ _ _ h => h) (Or.inl ⟨by rfl, ?_⟩) hHeld ?_ ?_
      rotate_left
      · (intro w hSw; (try dsimp only at hSw); obtain ⟨⟨s0, s1, s2⟩, s3, s4, s5⟩ := hSw; go_simp; (try with_reducible rfl))
      rotate_left
      · simp only [Act.put, List.setIfInBounds_toArray, List.set_cons_zero, List.set_cons_succ]
        rfl
      refine take1_ (i := 15) (v := ?_) (a' := ?_) (some 87) #[true, true, true, true, true, true, true, true, true, true, true, true, true, true, true, true, false, false] rfl rfl (by kernel_rfl) (fun _ _ _ h => h) (Or.inl ⟨by rfl, ?_⟩) hHeld ?_ ?_
      rotate_left
      · (intro w hSw; (try dsimp only at hSw); obtain ⟨⟨s0, s1, s2⟩, s3, s4, s5⟩ := hSw; go_simp; (try with_reducible rfl))
      rotate_left
      · simp only [Act.put, List.setIfInBounds_toArray, List.set_cons_zero, List.set_cons_succ]
        rfl
      refine take1_ (i := 16) (v := ?_) (a' := ?_) (some 88) #[true, true, true, true, true, true, true, true, true, true, true, true, true, true, true, true, true, false] rfl rfl (by kernel_rfl) (fun _ _ _ h => h) (Or.inl ⟨by rfl, ?_⟩) hHeld ?_ ?_
      rotate_left
      · (intro w hSw; (try dsimp only at hSw); obtain ⟨⟨s0, s1, s2⟩, s3, s4, s5⟩ := hSw; go_simp; (try with_reducible rfl))
      rotate_left
      · simp only [Act.put, List.setIfInBounds_toArray, List.set_cons_zero, List.set_cons_succ]
        rfl
      refine take1_ (i := 17) (v := ?_) (a' := ?_) (some 6) #[true, true, true, true, true, true, true, true, true, true, true, true, true, true, true, true, true, true] rfl rfl (by kernel_rfl) (fun _ _ _ h => h) (Or.inl ⟨by rfl, ?_⟩) hHeld ?_ ?_
      rotate_left
      · (intro w hSw; (try dsimp only at hSw); obtain ⟨⟨s0, s1, s2⟩, s3, s4, s5⟩ := hSw; go_simp; (try with_reducible rfl))
      rotate_left
      · simp only [Act.put, List.setIfInBounds_toArray, List.set_cons_zero, List.set_cons_succ]
        rfl
      refine wpAnyH_done (by kernel_rfl) ?_ _
      go_wp2
      go_ret
      exact ⟨rfl, bnext HBE.out.drew k1⟩
  all_goals
    (try have hi0 : (l.length : Int) = 0 := by omega)
    (try have hi0 : (120 : Int) < (l.length : Int) := by omega)
    go_upto_region 11 with fail
    have hBX := HB5.out
    have hSX := HS5.out
    have hlX := HLF.out
    revert hBX hSX hlX
    clear HS5 HB5 HV5 HFS HLF
    generalize f = q
    intro hBX hSX hlX
    have HSX := Lib.hid hSX
    have HBX := Lib.hid hBX
    have HLX := Lib.hid hlX
    have HQS : Hid ((bvs q).toArray.size = 128) := by unfold Hid; rw [secV_size, hlX]
    clear hSX hBX hlX
    obtain ⟨x0, y0, z0, hxyz⟩ := rdV_form q
    have hgr := fun w' => gread_any q w' HLX.out
    have hrr := fun w' => rread_any q w' HLX.out
    rw [hxyz] at hgr hrr
    obtain ⟨re, hre⟩ : ∃ re, re = rdE q := ⟨_, rfl⟩
    obtain ⟨rb, hrb⟩ : ∃ rb, rb = rdB q := ⟨_, rfl⟩
    have HRE : Hid ((rb = true ∧ re = 0) ∨ (rb = false ∧ re = 21)) := by
      unfold Hid
      rw [hre, hrb]
      cases h : rdB q with
      | true => exact .inl ⟨rfl, (rd_yes h).2⟩
      | false => exact .inr ⟨rfl, (rd_no h).2⟩
    rw [← hre] at hgr
    rw [← hrb] at hrr
    have HGR := fun w' => Lib.hid (hgr w')
    have HRR := fun w' => Lib.hid (hrr w')
    have HOW : ∀ w', Hid (Calls Try.prog 8 #[.agg #[.int .i64 (x0 : Int), .int .i64 (y0 : Int), .int .i64 (z0 : Int)]] w' fun e w'' => e = .returned (.agg #[.int .i64 (x0 : Int), .int .i64 (y0 : Int), .int .i64 (z0 : Int)]) ∧ Below w'.heap.size w' w'') := fun w' => own_any x0 y0 z0 w'
    clear hgr hrr hre hrb hxyz
    unfold secV geomV at HGR HRR
    go_upto_region 12 with (first
      | (refine wpList_load_row rfl 46 (.tmp 10) rfl p rfl _ _ _ _ HSX.out Try.underlying46 rfl (by rw [HQS.out]; exact size_arr) ?_)
      | (go_at_call 30; refine (HGR _).out.mono ?_; rintro e wa ⟨rfl, hba⟩; have HSA := Lib.hid (HSX.out.keep hba); have HBA := Lib.hid (bnext HBX.out hba); clear hba))
    have h1a := heap_alloc_last wa (.cells #[.int .i64 (x0 : Int), .int .i64 (y0 : Int), .int .i64 (z0 : Int)] 25 (0, 0))
    have hbb : Below wa.heap.size wa (wa.alloc (.cells #[.int .i64 (x0 : Int), .int .i64 (y0 : Int), .int .i64 (z0 : Int)] 25 (0, 0))) := (Below.refl _ _).alloc (Nat.le_refl _) _
    have hSB := HSA.out.keep hbb
    have hBB := bnext HBA.out hbb
    have hCB : At3 wa.heap.size x0 y0 z0 (wa.alloc (.cells #[.int .i64 (x0 : Int), .int .i64 (y0 : Int), .int .i64 (z0 : Int)] 25 (0, 0))) := ⟨cell_row h1a 0, cell_row h1a 1, cell_row h1a 2⟩
    clear h1a hbb HSA HBA
    revert hSB hBB hCB
    generalize wa.alloc (.cells #[.int .i64 (x0 : Int), .int .i64 (y0 : Int), .int .i64 (z0 : Int)] 25 (0, 0)) = wb
    generalize wa.heap.size = p11
    intro hSB hBB hCB
    have HSB := Lib.hid hSB
    have HBB := Lib.hid hBB
    have HCB := Lib.hid hCB
    clear hSB hBB hCB
    go_upto_region 13 with (first
      | (refine wpList_load_row rfl 46 (.tmp 10) rfl p rfl _ _ _ _ HSB.out Try.underlying46 rfl (by rw [HQS.out]; exact size_arr) ?_)
      | (go_at_call 34; refine (HRR _).out.mono ?_; rintro e wd ⟨rfl, hbd⟩; have HCD := Lib.hid (HCB.out.below hbd); have HBD := Lib.hid (bnext HBB.out hbd); clear hbd))
    have h1e := heap_alloc_last wd (.cells #[.int .i64 (x0 : Int), .int .i64 (y0 : Int), .int .i64 (z0 : Int)] 23 (0, 0))
    have hbe : Below wd.heap.size wd (wd.alloc (.cells #[.int .i64 (x0 : Int), .int .i64 (y0 : Int), .int .i64 (z0 : Int)] 23 (0, 0))) := (Below.refl _ _).alloc (Nat.le_refl _) _
    have hCE := HCD.out.below hbe
    have hBE := bnext HBD.out hbe
    have hDE : At3 wd.heap.size x0 y0 z0 (wd.alloc (.cells #[.int .i64 (x0 : Int), .int .i64 (y0 : Int), .int .i64 (z0 : Int)] 23 (0, 0))) := ⟨cell_row h1e 0, cell_row h1e 1, cell_row h1e 2⟩
    clear h1e hbe HCD HBD HCB HBB HSB HSX HBX
    revert hCE hBE hDE
    generalize wd.alloc (.cells #[.int .i64 (x0 : Int), .int .i64 (y0 : Int), .int .i64 (z0 : Int)] 23 (0, 0)) = we
    generalize wd.heap.size = p13
    intro hCE hBE hDE
    rcases HRE.out with ⟨rfl, rfl⟩ | ⟨rfl, rfl⟩
    · have hS6 : At6 p11 p13 x0 y0 z0 we.drew := ⟨hCE, hDE⟩
      have HBE := Lib.hid hBE
      clear hCE hDE hBE HRE HGR HRR
      refine wp_region_held_drew (S := (fun w' => At6 p11 p13 x0 y0 z0 w')) (by kernel_rfl) (by exact hS6) (fun hHeld => ?_)
      refine take1_ (i := 0) (v := ?_) (a' := ?_) (some 72) #[true, false, false, false, false, false, false, false, false, false, false, false, false, false, false, false, false, false] rfl rfl (by kernel_rfl) (fun _ _ _ h => h) (Or.inl ⟨by rfl, ?_⟩) hHeld ?_ ?_
      rotate_left
      · (intro w hSw; (try dsimp only at hSw); obtain ⟨⟨s0, s1, s2⟩, s3, s4, s5⟩ := hSw; go_simp; (try with_reducible rfl))
      rotate_left
      · simp only [Act.put, List.setIfInBounds_toArray, List.set_cons_zero, List.set_cons_succ]
        rfl
      refine take1_ (i := 1) (v := ?_) (a' := ?_) (some 73) #[true, true, false, false, false, false, false, false, false, false, false, false, false, false, false, false, false, false] rfl rfl (by kernel_rfl) (fun _ _ _ h => h) (Or.inl ⟨by rfl, ?_⟩) hHeld ?_ ?_
      rotate_left
      · (intro w hSw; (try dsimp only at hSw); obtain ⟨⟨s0, s1, s2⟩, s3, s4, s5⟩ := hSw; go_simp; (try with_reducible rfl))
      rotate_left
      · simp only [Act.put, List.setIfInBounds_toArray, List.set_cons_zero, List.set_cons_succ]
        rfl
      refine loud1_ (i := 2) (some 74) #[true, true, true, false, false, false, false, false, false, false, false, false, false, false, false, false, false, false] rfl rfl (by kernel_rfl) (fun K hK => ?_)
      go_simp
      (go_at_call 8; refine (HOW _).out.mono ?_; rintro e x1 ⟨rfl, k1⟩)
      refine hK.out _ _ (by exact At6.below ‹_› ‹_›) (fun hHeld' => ?_)
      clear hK K hHeld
      have hHeld := hHeld'
      clear hHeld'
      try simp only [Act.put, List.setIfInBounds_toArray, List.set_cons_zero, List.set_cons_succ]
      refine take1_ (i := 3) (v := ?_) (a' := ?_) (some 75) #[true, true, true, true, false, false, false, false, false, false, false, false, false, false, false, false, false, false] rfl rfl (by kernel_rfl) (fun _ _ _ h => h) (Or.inl ⟨by rfl, ?_⟩) hHeld ?_ ?_
      rotate_left
      · (intro w hSw; (try dsimp only at hSw); obtain ⟨⟨s0, s1, s2⟩, s3, s4, s5⟩ := hSw; go_simp; (try with_reducible rfl))
      rotate_left
      · simp only [Act.put, List.setIfInBounds_toArray, List.set_cons_zero, List.set_cons_succ]
        rfl
      refine take1_ (i := 4) (v := ?_) (a' := ?_) (some 76) #[true, true, true, true, true, false, false, false, false, false, false, false, false, false, false, false, false, false] rfl rfl (by kernel_rfl) (fun _ _ _ h => h) (Or.inl ⟨by rfl, ?_⟩) hHeld ?_ ?_
      rotate_left
      · (intro w hSw; (try dsimp only at hSw); obtain ⟨⟨s0, s1, s2⟩, s3, s4, s5⟩ := hSw; go_simp; (try with_reducible rfl))
      rotate_left
      · simp only [Act.put, List.setIfInBounds_toArray, List.set_cons_zero, List.set_cons_succ]
        rfl
      refine take1_ (i := 5) (v := ?_) (a' := ?_) (some 77) #[true, true, true, true, true, true, false, false, false, false, false, false, false, false, false, false, false, false] rfl rfl (by kernel_rfl) (fun _ _ _ h => h) (Or.inl ⟨by rfl, ?_⟩) hHeld ?_ ?_
      rotate_left
      · (intro w hSw; (try dsimp only at hSw); obtain ⟨⟨s0, s1, s2⟩, s3, s4, s5⟩ := hSw; go_simp; (try with_reducible rfl))
      rotate_left
      · simp only [Act.put, List.setIfInBounds_toArray, List.set_cons_zero, List.set_cons_succ]
        rfl
      refine take1_ (i := 6) (v := ?_) (a' := ?_) (some 78) #[true, true, true, true, true, true, true, false, false, false, false, false, false, false, false, false, false, false] rfl rfl (by kernel_rfl) (fun _ _ _ h => h) (Or.inl ⟨by rfl, ?_⟩) hHeld ?_ ?_
      rotate_left
      · (intro w hSw; (try dsimp only at hSw); obtain ⟨⟨s0, s1, s2⟩, s3, s4, s5⟩ := hSw; go_simp; (try with_reducible rfl))
      rotate_left
      · simp only [Act.put, List.setIfInBounds_toArray, List.set_cons_zero, List.set_cons_succ]
        rfl
      refine take1_ (i := 7) (v := ?_) (a' := ?_) (some 79) #[true, true, true, true, true, true, true, true, false, false, false, false, false, false, false, false, false, false] rfl rfl (by kernel_rfl) (fun _ _ _ h => h) (Or.inl ⟨by rfl, ?_⟩) hHeld ?_ ?_
      rotate_left
      · (intro w hSw; (try dsimp only at hSw); obtain ⟨⟨s0, s1, s2⟩, s3, s4, s5⟩ := hSw; go_simp; (try with_reducible rfl))
      rotate_left
      · simp only [Act.put, List.setIfInBounds_toArray, List.set_cons_zero, List.set_cons_succ]
        rfl
      refine take1_ (i := 8) (v := ?_) (a' := ?_) (some 80) #[true, true, true, true, true, true, true, true, true, false, false, false, false, false, false, false, false, false] rfl rfl (by kernel_rfl) (fun _ _ _ h => h) (Or.inl ⟨by rfl, ?_⟩) hHeld ?_ ?_
      rotate_left
      · (intro w hSw; (try dsimp only at hSw); obtain ⟨⟨s0, s1, s2⟩, s3, s4, s5⟩ := hSw; go_simp; (try with_reducible rfl))
      rotate_left
      · simp only [Act.put, List.setIfInBounds_toArray, List.set_cons_zero, List.set_cons_succ]
        rfl
      refine take1_ (i := 9) (v := ?_) (a' := ?_) (some 81) #[true, true, true, true, true, true, true, true, true, true, false, false, false, false, false, false, false, false] rfl rfl (by kernel_rfl) (fun _ _ _ h => h) (Or.inl ⟨by rfl, ?_⟩) hHeld ?_ ?_
      rotate_left
      · (intro w hSw; (try dsimp only at hSw); obtain ⟨⟨s0, s1, s2⟩, s3, s4, s5⟩ := hSw; go_simp; (try with_reducible rfl))
      rotate_left
      · simp only [Act.put, List.setIfInBounds_toArray, List.set_cons_zero, List.set_cons_succ]
        rfl
      refine take1_ (i := 10) (v := ?_) (a' := ?_) (some 82) #[true, true, true, true, true, true, true, true, true, true, true, false, false, false, false, false, false, false] rfl rfl (by kernel_rfl) (fun _ _ _ h => h) (Or.inl ⟨by rfl, ?_⟩) hHeld ?_ ?_
      rotate_left
      · (intro w hSw; (try dsimp only at hSw); obtain ⟨⟨s0, s1, s2⟩, s3, s4, s5⟩ := hSw; go_simp; (try with_reducible rfl))
      rotate_left
      · simp only [Act.put, List.setIfInBounds_toArray, List.set_cons_zero, List.set_cons_succ]
        rfl
      refine take1_ (i := 11) (v := ?_) (a' := ?_) (some 83) #[true, true, true, true, true, true, true, true, true, true, true, true, false, false, false, false, false, false] rfl rfl (by kernel_rfl) (fun _ _ _ h => h) (Or.inl ⟨by rfl, ?_⟩) hHeld ?_ ?_
      rotate_left
      · (intro w hSw; (try dsimp only at hSw); obtain ⟨⟨s0, s1, s2⟩, s3, s4, s5⟩ := hSw; go_simp; (try with_reducible rfl))
      rotate_left
      · simp only [Act.put, List.setIfInBounds_toArray, List.set_cons_zero, List.set_cons_succ]
        rfl
      refine take1_ (i := 12) (v := ?_) (a' := ?_) (some 84) #[true, true, true, true, true, true, true, true, true, true, true, true, true, false, false, false, false, false] rfl rfl (by kernel_rfl) (fun _ _ _ h => h) (Or.inl ⟨by rfl, ?_⟩) hHeld ?_ ?_
      rotate_left
      · (intro w hSw; (try dsimp only at hSw); obtain ⟨⟨s0, s1, s2⟩, s3, s4, s5⟩ := hSw; go_simp; (try with_reducible rfl))
      rotate_left
      · simp only [Act.put, List.setIfInBounds_toArray, List.set_cons_zero, List.set_cons_succ]
        rfl
      refine off_ (by kernel_rfl) (fun _ _ d _ _ h => by cases d <;> exact h) hHeld [13, 14] [some 85, some 86] [(84, some true)] #[true, true, true, true, true, true, true, true, true, true, true, true, true, true, true, false, false, false] 3 rfl (by kernel_rfl) (by repeat (first | exact trivial | refine ⟨by rfl, ?_⟩)) (a' := ?_) ?_ ?_
      rotate_left
      · simp only [putOff, Act.put, List.setIfInBounds_toArray, List.set_cons_zero, List.set_cons_succ]
        rfl
      refine take1_ (i := 15) (v := ?_) (a' := ?_) (some 87) #[true, true, true, true, true, true, true, true, true, true, true, true, true, true, true, true, false, false] rfl rfl (by kernel_rfl) (fun _ _ _ h => h) (Or.inl ⟨by rfl, ?_⟩) hHeld ?_ ?_
      rotate_left
      · (intro w hSw; (try dsimp only at hSw); obtain ⟨⟨s0, s1, s2⟩, s3, s4, s5⟩ := hSw; go_simp; (try with_reducible rfl))
      rotate_left
      · simp only [Act.put, List.setIfInBounds_toArray, List.set_cons_zero, List.set_cons_succ]
        rfl
      refine take1_ (i := 16) (v := ?_) (a' := ?_) (some 88) #[true, true, true, true, true, true, true, true, true, true, true, true, true, true, true, true, true, false] rfl rfl (by kernel_rfl) (fun _ _ _ h => h) (Or.inl ⟨by rfl, ?_⟩) hHeld ?_ ?_
      rotate_left
      · (intro w hSw; (try dsimp only at hSw); obtain ⟨⟨s0, s1, s2⟩, s3, s4, s5⟩ := hSw; go_simp; (try with_reducible rfl))
      rotate_left
      · simp only [Act.put, List.setIfInBounds_toArray, List.set_cons_zero, List.set_cons_succ]
        rfl
      refine take1_ (i := 17) (v := ?_) (a' := ?_) (some 6) #[true, true, true, true, true, true, true, true, true, true, true, true, true, true, true, true, true, true] rfl rfl (by kernel_rfl) (fun _ _ _ h => h) (Or.inl ⟨by rfl, ?_⟩) hHeld ?_ ?_
      rotate_left
      · (intro w hSw; (try dsimp only at hSw); obtain ⟨⟨s0, s1, s2⟩, s3, s4, s5⟩ := hSw; go_simp; (try with_reducible rfl))
      rotate_left
      · simp only [Act.put, List.setIfInBounds_toArray, List.set_cons_zero, List.set_cons_succ]
        rfl
      refine wpAnyH_done (by kernel_rfl) ?_ _
      go_wp2
      go_ret
      exact ⟨rfl, bnext HBE.out.drew k1⟩
    · have hS6 : At6 p11 p13 x0 y0 z0 we.drew := ⟨hCE, hDE⟩
      have HBE := Lib.hid hBE
      clear hCE hDE hBE HRE HGR HRR
      refine wp_region_held_drew (S := (fun w' => At6 p11 p13 x0 y0 z0 w')) (by kernel_rfl) (by exact hS6) (fun hHeld => ?_)
      refine take1_ (i := 0) (v := ?_) (a' := ?_) (some 72) #[true, false, false, false, false, false, false, false, false, false, false, false, false, false, false, false, false, false] rfl rfl (by kernel_rfl) (fun _ _ _ h => h) (Or.inl ⟨by rfl, ?_⟩) hHeld ?_ ?_
      rotate_left
      · (intro w hSw; (try dsimp only at hSw); obtain ⟨⟨s0, s1, s2⟩, s3, s4, s5⟩ := hSw; go_simp; (try with_reducible rfl))
      rotate_left
      · simp only [Act.put, List.setIfInBounds_toArray, List.set_cons_zero, List.set_cons_succ]
        rfl
      refine take1_ (i := 1) (v := ?_) (a' := ?_) (some 73) #[true, true, false, false, false, false, false, false, false, false, false, false, false, false, false, false, false, false] rfl rfl (by kernel_rfl) (fun _ _ _ h => h) (Or.inl ⟨by rfl, ?_⟩) hHeld ?_ ?_
      rotate_left
      · (intro w hSw; (try dsimp only at hSw); obtain ⟨⟨s0, s1, s2⟩, s3, s4, s5⟩ := hSw; go_simp; (try with_reducible rfl))
      rotate_left
      · simp only [Act.put, List.setIfInBounds_toArray, List.set_cons_zero, List.set_cons_succ]
        rfl
      refine loud1_ (i := 2) (some 74) #[true, true, true, false, false, false, false, false, false, false, false, false, false, false, false, false, false, false] rfl rfl (by kernel_rfl) (fun K hK => ?_)
      go_simp
      (go_at_call 8; refine (HOW _).out.mono ?_; rintro e x1 ⟨rfl, k1⟩)
      refine hK.out _ _ (by exact At6.below ‹_› ‹_›) (fun hHeld' => ?_)
      clear hK K hHeld
      have hHeld := hHeld'
      clear hHeld'
      try simp only [Act.put, List.setIfInBounds_toArray, List.set_cons_zero, List.set_cons_succ]
      refine take1_ (i := 3) (v := ?_) (a' := ?_) (some 75) #[true, true, true, true, false, false, false, false, false, false, false, false, false, false, false, false, false, false] rfl rfl (by kernel_rfl) (fun _ _ _ h => h) (Or.inl ⟨by rfl, ?_⟩) hHeld ?_ ?_
      rotate_left
      · (intro w hSw; (try dsimp only at hSw); obtain ⟨⟨s0, s1, s2⟩, s3, s4, s5⟩ := hSw; go_simp; (try with_reducible rfl))
      rotate_left
      · simp only [Act.put, List.setIfInBounds_toArray, List.set_cons_zero, List.set_cons_succ]
        rfl
      refine take1_ (i := 4) (v := ?_) (a' := ?_) (some 76) #[true, true, true, true, true, false, false, false, false, false, false, false, false, false, false, false, false, false] rfl rfl (by kernel_rfl) (fun _ _ _ h => h) (Or.inl ⟨by rfl, ?_⟩) hHeld ?_ ?_
      rotate_left
      · (intro w hSw; (try dsimp only at hSw); obtain ⟨⟨s0, s1, s2⟩, s3, s4, s5⟩ := hSw; go_simp; (try with_reducible rfl))
      rotate_left
      · simp only [Act.put, List.setIfInBounds_toArray, List.set_cons_zero, List.set_cons_succ]
        rfl
      refine take1_ (i := 5) (v := ?_) (a' := ?_) (some 77) #[true, true, true, true, true, true, false, false, false, false, false, false, false, false, false, false, false, false] rfl rfl (by kernel_rfl) (fun _ _ _ h => h) (Or.inl ⟨by rfl, ?_⟩) hHeld ?_ ?_
      rotate_left
      · (intro w hSw; (try dsimp only at hSw); obtain ⟨⟨s0, s1, s2⟩, s3, s4, s5⟩ := hSw; go_simp; (try with_reducible rfl))
      rotate_left
      · simp only [Act.put, List.setIfInBounds_toArray, List.set_cons_zero, List.set_cons_succ]
        rfl
      refine take1_ (i := 6) (v := ?_) (a' := ?_) (some 78) #[true, true, true, true, true, true, true, false, false, false, false, false, false, false, false, false, false, false] rfl rfl (by kernel_rfl) (fun _ _ _ h => h) (Or.inl ⟨by rfl, ?_⟩) hHeld ?_ ?_
      rotate_left
      · (intro w hSw; (try dsimp only at hSw); obtain ⟨⟨s0, s1, s2⟩, s3, s4, s5⟩ := hSw; go_simp; (try with_reducible rfl))
      rotate_left
      · simp only [Act.put, List.setIfInBounds_toArray, List.set_cons_zero, List.set_cons_succ]
        rfl
      refine take1_ (i := 7) (v := ?_) (a' := ?_) (some 79) #[true, true, true, true, true, true, true, true, false, false, false, false, false, false, false, false, false, false] rfl rfl (by kernel_rfl) (fun _ _ _ h => h) (Or.inl ⟨by rfl, ?_⟩) hHeld ?_ ?_
      rotate_left
      · (intro w hSw; (try dsimp only at hSw); obtain ⟨⟨s0, s1, s2⟩, s3, s4, s5⟩ := hSw; go_simp; (try with_reducible rfl))
      rotate_left
      · simp only [Act.put, List.setIfInBounds_toArray, List.set_cons_zero, List.set_cons_succ]
        rfl
      refine take1_ (i := 8) (v := ?_) (a' := ?_) (some 80) #[true, true, true, true, true, true, true, true, true, false, false, false, false, false, false, false, false, false] rfl rfl (by kernel_rfl) (fun _ _ _ h => h) (Or.inl ⟨by rfl, ?_⟩) hHeld ?_ ?_
      rotate_left
      · (intro w hSw; (try dsimp only at hSw); obtain ⟨⟨s0, s1, s2⟩, s3, s4, s5⟩ := hSw; go_simp; (try with_reducible rfl))
      rotate_left
      · simp only [Act.put, List.setIfInBounds_toArray, List.set_cons_zero, List.set_cons_succ]
        rfl
      refine take1_ (i := 9) (v := ?_) (a' := ?_) (some 81) #[true, true, true, true, true, true, true, true, true, true, false, false, false, false, false, false, false, false] rfl rfl (by kernel_rfl) (fun _ _ _ h => h) (Or.inl ⟨by rfl, ?_⟩) hHeld ?_ ?_
      rotate_left
      · (intro w hSw; (try dsimp only at hSw); obtain ⟨⟨s0, s1, s2⟩, s3, s4, s5⟩ := hSw; go_simp; (try with_reducible rfl))
      rotate_left
      · simp only [Act.put, List.setIfInBounds_toArray, List.set_cons_zero, List.set_cons_succ]
        rfl
      refine take1_ (i := 10) (v := ?_) (a' := ?_) (some 82) #[true, true, true, true, true, true, true, true, true, true, true, false, false, false, false, false, false, false] rfl rfl (by kernel_rfl) (fun _ _ _ h => h) (Or.inl ⟨by rfl, ?_⟩) hHeld ?_ ?_
      rotate_left
      · (intro w hSw; (try dsimp only at hSw); obtain ⟨⟨s0, s1, s2⟩, s3, s4, s5⟩ := hSw; go_simp; (try with_reducible rfl))
      rotate_left
      · simp only [Act.put, List.setIfInBounds_toArray, List.set_cons_zero, List.set_cons_succ]
        rfl
      refine take1_ (i := 11) (v := ?_) (a' := ?_) (some 83) #[true, true, true, true, true, true, true, true, true, true, true, true, false, false, false, false, false, false] rfl rfl (by kernel_rfl) (fun _ _ _ h => h) (Or.inl ⟨by rfl, ?_⟩) hHeld ?_ ?_
      rotate_left
      · (intro w hSw; (try dsimp only at hSw); obtain ⟨⟨s0, s1, s2⟩, s3, s4, s5⟩ := hSw; go_simp; (try with_reducible rfl))
      rotate_left
      · simp only [Act.put, List.setIfInBounds_toArray, List.set_cons_zero, List.set_cons_succ]
        rfl
      refine take1_ (i := 12) (v := ?_) (a' := ?_) (some 84) #[true, true, true, true, true, true, true, true, true, true, true, true, true, false, false, false, false, false] rfl rfl (by kernel_rfl) (fun _ _ _ h => h) (Or.inl ⟨by rfl, ?_⟩) hHeld ?_ ?_
      rotate_left
      · (intro w hSw; (try dsimp only at hSw); obtain ⟨⟨s0, s1, s2⟩, s3, s4, s5⟩ := hSw; go_simp; (try with_reducible rfl))
      rotate_left
      · simp only [Act.put, List.setIfInBounds_toArray, List.set_cons_zero, List.set_cons_succ]
        rfl
      refine take1_ (i := 13) (v := ?_) (a' := ?_) (some 85) #[true, true, true, true, true, true, true, true, true, true, true, true, true, true, false, false, false, false] rfl rfl (by kernel_rfl) (fun _ _ _ h => h) (Or.inl ⟨by rfl, ?_⟩) hHeld ?_ ?_
      rotate_left
      · (intro w hSw; (try dsimp only at hSw); obtain ⟨⟨s0, s1, s2⟩, s3, s4, s5⟩ := hSw; go_simp; (try with_reducible rfl))
      rotate_left
      · simp only [Act.put, List.setIfInBounds_toArray, List.set_cons_zero, List.set_cons_succ]
        rfl
      refine take1_ (i := 14) (v := ?_) (a' := ?_) (some 86) #[true, true, true, true, true, true, true, true, true, true, true, true, true, true, true, false, false, false] rfl rfl (by kernel_rfl) (fun _ _ _ h => h) (Or.inl ⟨by rfl, ?_⟩) hHeld ?_ ?_
      rotate_left
      · (intro w hSw; (try dsimp only at hSw); obtain ⟨⟨s0, s1, s2⟩, s3, s4, s5⟩ := hSw; go_simp; (try with_reducible rfl))
      rotate_left
      · simp only [Act.put, List.setIfInBounds_toArray, List.set_cons_zero, List.set_cons_succ]
        rfl
      refine take1_ (i := 15) (v := ?_) (a' := ?_) (some 87) #[true, true, true, true, true, true, true, true, true, true, true, true, true, true, true, true, false, false] rfl rfl (by kernel_rfl) (fun _ _ _ h => h) (Or.inl ⟨by rfl, ?_⟩) hHeld ?_ ?_
      rotate_left
      · (intro w hSw; (try dsimp only at hSw); obtain ⟨⟨s0, s1, s2⟩, s3, s4, s5⟩ := hSw; go_simp; (try with_reducible rfl))
      rotate_left
      · simp only [Act.put, List.setIfInBounds_toArray, List.set_cons_zero, List.set_cons_succ]
        rfl
      refine take1_ (i := 16) (v := ?_) (a' := ?_) (some 88) #[true, true, true, true, true, true, true, true, true, true, true, true, true, true, true, true, true, false] rfl rfl (by kernel_rfl) (fun _ _ _ h => h) (Or.inl ⟨by rfl, ?_⟩) hHeld ?_ ?_
      rotate_left
      · (intro w hSw; (try dsimp only at hSw); obtain ⟨⟨s0, s1, s2⟩, s3, s4, s5⟩ := hSw; go_simp; (try with_reducible rfl))
      rotate_left
      · simp only [Act.put, List.setIfInBounds_toArray, List.set_cons_zero, List.set_cons_succ]
        rfl
      refine take1_ (i := 17) (v := ?_) (a' := ?_) (some 6) #[true, true, true, true, true, true, true, true, true, true, true, true, true, true, true, true, true, true] rfl rfl (by kernel_rfl) (fun _ _ _ h => h) (Or.inl ⟨by rfl, ?_⟩) hHeld ?_ ?_
      rotate_left
      · (intro w hSw; (try dsimp only at hSw); obtain ⟨⟨s0, s1, s2⟩, s3, s4, s5⟩ := hSw; go_simp; (try with_reducible rfl))
      rotate_left
      · simp only [Act.put, List.setIfInBounds_toArray, List.set_cons_zero, List.set_cons_succ]
        rfl
      refine wpAnyH_done (by kernel_rfl) ?_ _
      go_wp2
      go_ret
      exact ⟨rfl, bnext HBE.out.drew k1⟩
end Go.Proofs.Yteepgdfjbpfakaa
