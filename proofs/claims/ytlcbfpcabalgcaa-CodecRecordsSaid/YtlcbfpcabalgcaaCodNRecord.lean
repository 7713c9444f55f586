/-
  Codec: lists of records as sectors, and back: the program's.
-/
import Derived.Test.YtlcbfpcabalgcaaCodMRecord
import Derived.Test.YtlcbfpcabalgcaaSeal
import Derived.Test.YtlcbfpcabalgcaaSealO
namespace Go.Proofs.Ytlcbfpcabalgcaa
open Go.RowKit
set_option linter.unusedVariables false
set_option linter.unusedSimpArgs false
set_option linter.unnecessarySimpa false
set_option maxRecDepth 10000 in
set_option maxHeartbeats 8000000 in
theorem wrl_record (kind : UInt8) (A : Option Addr) (nl c : Nat) (mayb : Bool) (L : List UInt8) (bad : Bool) (w : World)
    (hm : ∀ w', Below w.heap.size w w' → Calls Try.prog 76 #[.slice A nl c] w' fun e w'' => e = .returned (.bool mayb) ∧ Below w'.heap.size w' w'')
    (hp : ∀ w' base g pb, Below w.heap.size w w' → CwAt w' base g [] false → w'.heap[pb]? = some (.cells #[.slice A nl c] 88 (0, 0)) → base ≤ w'.heap.size → pb < base → w.heap.size ≤ base → Calls Try.prog 75 #[wV g, .pointer (some ⟨pb, 0, none⟩)] w' (CwTo w' base g L bad)) :
    Calls Try.prog 74 #[.int .u8 (kind.toNat : Int), .slice A nl c, .func (.func 75) #[] #[], .func (.func 76) #[] #[]] w (WrS w kind (mayb && !bad) L) := by
  have HM := Lib.hid hm
  have HP := Lib.hid hp
  clear hm hp
  go_enter Try.func74, Try.ntmps74
  go_upto_region 2 with fail
  have hA := a3 w (.cells #[.slice A nl c] 88 (0, 0)) (.cells Try.zeroCells29 29 (0, 0)) (.cells #[.slice none 0 0, .bool false] 167 (0, 0))
  revert hA
  generalize ((w.alloc (.cells #[.slice A nl c] 88 (0, 0))).alloc (.cells Try.zeroCells29 29 (0, 0))).alloc (.cells #[.slice none 0 0, .bool false] 167 (0, 0)) = w2
  intro hA
  have HA := Lib.hid hA
  clear hA
  have c5 : w2.cell? ⟨w.heap.size, 0, none⟩ = some (.slice A nl c) := cell_row HA.out.h0 0
  cases mayb with
  | false =>
    go_wp2_with (first
      | (go_at_call 76; refine (HM.out w2 HA.out.bel).mono ?_; rintro e w3 ⟨rfl, hb3⟩; have HT := Lib.hid (old_heap HA.out.h1 hb3); have HB := Lib.hid (bnext HA.out.bel hb3); clear hb3)
      | (refine wpList_store_row rfl 29 (.tmp 8) (.tmp 17) rfl (w.heap.size + 1) zArr zArr 29 rfl rfl HT.out (by rw [zArr_size]; exact size_sec) rfl zArr_one ?_))
    have hld := run_loadVar_row (P := Try.prog) (w3.setRow (w.heap.size + 1) zArr) (w.heap.size + 1) 29 29 zArr (0, 0) _ (setRow_heap _ _ _ _ _ _ HT.out) Try.underlying29 (by simp) (by rw [zArr_size]; exact size_sec)
    exact bodyPost_ret (v := .tuple #[secV (List.replicate 128 0), .int .i64 1]) (results_cell2 Try.results74 rfl rfl hld) rfl (wrS_no rfl rfl (below_row HB.out (by omega)))
  | true =>
    go_upto_region 4 with (first
      | (go_at_call 76; refine (HM.out w2 HA.out.bel).mono ?_; rintro e w3 ⟨rfl, hb3⟩; have HB := Lib.hid (bnext HA.out.bel hb3); have HX := Lib.hid (old_heap HA.out.h0 hb3); have HT := Lib.hid (old_heap HA.out.h1 hb3); have HG := Lib.hid (old_heap HA.out.h2 hb3); clear hb3))
    have hgl := (Array.getElem?_eq_some_iff.1 HG.out).1
    have hcw : CwAt w3 (w.heap.size + 1 + 1) (w.heap.size + 1 + 1) [] false := ⟨.slice none 0 0, HG.out, own_none _ _ _, Nat.le_refl _, fun k hk => by cases hk⟩
    have hpp := HP.out w3 (w.heap.size + 1 + 1) (w.heap.size + 1 + 1) w.heap.size HB.out hcw HX.out (by omega) (by omega) (by omega)
    unfold CwTo wV at hpp
    have HPP := Lib.hid hpp
    clear hpp hcw hgl
    go_upto_region 5 with (go_at_call 75; refine HPP.out.mono ?_; rintro e w4 ⟨rfl, hcw, hb4⟩; have HB4 := Lib.hid (HB.out.trans (hb4.mono (by omega))); have HT4 := Lib.hid ((hb4.block (w.heap.size + 1) (by omega)).trans HT.out); have HCW := Lib.hid hcw; clear hcw hb4)
    obtain ⟨v4, hg4, ho4, -, -⟩ := HCW.out
    obtain ⟨sp4, cp4, rfl⟩ := own_slice1 ho4
    have HMK := Lib.hid (make_any kind _ L w4 (own_byt ho4).1)
    have c0 : w4.cell? ⟨w.heap.size + 1 + 1, 0, none⟩ = some (.slice sp4 L.length cp4) := cell_row hg4 0
    have c1 : w4.cell? ⟨w.heap.size + 1 + 1, 1, none⟩ = some (.bool bad) := cell_row hg4 1
    have hms : (bvs (makeS kind L)).toArray.size = 128 := by rw [secV_size, makeS_length]
    have HMS := Lib.hid hms
    clear hg4 ho4 HPP HCW HX HG HM HP hms
    cases bad with
    | true =>
      go_wp2_with (refine wpList_store_row rfl 29 (.tmp 8) (.tmp 26) rfl (w.heap.size + 1) zArr zArr 29 rfl rfl HT4.out (by rw [zArr_size]; exact size_sec) rfl zArr_one ?_)
      have hld := run_loadVar_row (P := Try.prog) (w4.setRow (w.heap.size + 1) zArr) (w.heap.size + 1) 29 29 zArr (0, 0) _ (setRow_heap _ _ _ _ _ _ HT4.out) Try.underlying29 (by simp) (by rw [zArr_size]; exact size_sec)
      exact bodyPost_ret (v := .tuple #[secV (List.replicate 128 0), .int .i64 1]) (results_cell2 Try.results74 rfl rfl hld) rfl (wrS_no rfl rfl (below_row HB4.out (by omega)))
    | false =>
      obtain ⟨S, hS⟩ : ∃ S, makeS kind L = S := ⟨_, rfl⟩
      obtain ⟨N, hN⟩ : ∃ N, makeE kind L = N := ⟨_, rfl⟩
      rw [hS, hN] at HMK
      rw [hS] at HMS
      have HS := Lib.hid hS
      have HN := Lib.hid hN
      clear hS hN
      unfold secV at HMK
      go_wp2_with (first
        | (go_at_call 82; refine HMK.out.mono ?_; rintro e w5 ⟨rfl, hb5⟩; have HT5 := Lib.hid (old_heap HT4.out hb5); have HB5 := Lib.hid (bnext HB4.out hb5); clear hb5)
        | (refine wpList_store_row rfl 29 (.tmp 8) (.tmp 33) rfl (w.heap.size + 1) zArr (bvs S).toArray 29 rfl rfl HT5.out (by rw [HMS.out]; exact size_sec) (by rw [HMS.out, zArr_size]) (sec_one _) ?_))
      have hld := run_loadVar_row (P := Try.prog) (w5.setRow (w.heap.size + 1) (bvs S).toArray) (w.heap.size + 1) 29 29 (bvs S).toArray (0, 0) _ (setRow_heap _ _ _ _ _ _ HT5.out) Try.underlying29 (by simp) (by rw [HMS.out]; exact size_sec)
      exact bodyPost_ret (v := .tuple #[secV S, .int .i64 N]) (results_cell2 Try.results74 rfl rfl hld) rfl (wrS_yes rfl (by rw [HS.out, HN.out]) (below_row HB5.out (by omega)))
theorem wrs_record (L : List Rcd) (A : Option Addr) (c : Nat) (w : World) (hR : ReadAt w A Rcd.cells 4 L) (hA : ∀ a, A = some a → a.block < w.heap.size) (hok : ∀ x ∈ L, x.Ok) (hL : L.length ≤ 1000) :
    Calls Try.prog 74 #[.int .u8 7, .slice A L.length c, .func (.func 75) #[] #[], .func (.func 76) #[] #[]] w (WrS w 7 (recordsMay L && !fBad (recordAll L)) (fB (recordAll L))) :=
  wrl_record 7 A L.length c (recordsMay L) (fB (recordAll L)) (fBad (recordAll L)) w (fun w' hb => recordsMay_any L A c w' (hR.below Rcd.cells_len hb) (by omega))
    (fun w' base g pb hb hcw hpb hbs hpl hwb => by
      have := pw_records L A c pb 0 hcw (cell_row hpb 0) (hR.below Rcd.cells_len hb) (fun a ha => Nat.lt_of_lt_of_le (hA a ha) hwb) hpl hok (by simp) hL hbs
      simpa using this)
def recordRdOk (l : List UInt8) : Bool := (openB l && decide (openK l = 7)) && (decide ((openL l).length % 9 = 0) && recordsMay (records (openL l) 0 ((openL l).length / 9)))
def recordRdL (l : List UInt8) : List Rcd := if recordRdOk l then records (openL l) 0 ((openL l).length / 9) else []
/-- What reading comes to. -/
def RlRcd (w : World) (l : List UInt8) (e : Ending) (w' : World) : Prop :=
  ∃ v', e = .returned (.tuple #[v', .int .i64 (if recordRdOk l then 0 else 21)]) ∧ w'.ownsRow w.heap.size 91 4 v' (recordRdL l).length (rowsOf Rcd.cells (recordRdL l)) ∧ Below w.heap.size w w'
theorem rlRcd_no {w w' : World} {l : List UInt8} {e : Ending} (h : recordRdOk l = false) (he : e = .returned (.tuple #[.slice none 0 0, .int .i64 21])) (hb : Below w.heap.size w w') : RlRcd w l e w' := by
  unfold RlRcd recordRdL
  rw [h]
  exact ⟨_, he, own_nilk _ _ _ _, hb⟩
theorem rlRcd_yes {w w' : World} {l : List UInt8} {e : Ending} {v' : Value} {L : List Rcd} (h : recordRdOk l = true) (hL : records (openL l) 0 ((openL l).length / 9) = L) (he : e = .returned (.tuple #[v', .int .i64 0])) (ho : w'.ownsRow w.heap.size 91 4 v' L.length (rowsOf Rcd.cells L)) (hb : Below w.heap.size w w') : RlRcd w l e w' := by
  unfold RlRcd recordRdL
  rw [h, if_pos rfl, if_pos rfl, hL]
  exact ⟨_, he, ho, hb⟩
set_option maxRecDepth 10000 in
set_option maxHeartbeats 8000000 in
theorem rdl_record (l : List UInt8) (w : World) (hl : l.length = 128) :
    Calls Try.prog 77 #[.int .u8 7, secV l, .func (.func 75) #[] #[], .func (.func 76) #[] #[]] w (RlRcd w l) := by
  have HSZ : Hid ((bvs l).toArray.size = 128) := by unfold Hid; rw [secV_size, hl]
  have HBL := Lib.hid (openL_le l)
  have hop := fun w' => open_any l w' hl
  obtain ⟨k, hk⟩ : ∃ k, openK l = k := ⟨_, rfl⟩
  obtain ⟨b, hb⟩ : ∃ b, openL l = b := ⟨_, rfl⟩
  obtain ⟨oe, hoe⟩ : ∃ oe, openE l = oe := ⟨_, rfl⟩
  rw [hk, hb, hoe] at hop
  rw [hb] at HBL
  have hokd : recordRdOk l = ((openB l && decide (k = 7)) && (decide (b.length % 9 = 0) && recordsMay (records b 0 (b.length / 9)))) := by unfold recordRdOk; rw [hk, hb]
  have HOKD := Lib.hid hokd
  have HBE := Lib.hid hb
  have HOP := fun w' => Lib.hid (hop w')
  have HOE := Lib.hid hoe
  clear hop hk hb hoe hl hokd
  unfold secV at HOP ⊢
  unfold OpTo at HOP
  have hB2 : Below w.heap.size w ((w.alloc (.cells (bvs l).toArray 29 (0, 0))).alloc (.cells #[.slice none 0 0] 88 (0, 0))) := ((Below.refl _ _).alloc (Nat.le_refl _) _).alloc (by simp) _
  have hG2 := old_heap (heap_alloc_last w (.cells (bvs l).toArray 29 (0, 0))) ((Below.refl _ _).alloc (Nat.le_refl _) (.cells #[.slice none 0 0] 88 (0, 0)))
  have hT2 := heap_alloc_last (w.alloc (.cells (bvs l).toArray 29 (0, 0))) (.cells #[.slice none 0 0] 88 (0, 0))
  rw [show (w.alloc (.cells (bvs l).toArray 29 (0, 0))).heap.size = w.heap.size + 1 by simp] at hT2
  have hS2 : ((w.alloc (.cells (bvs l).toArray 29 (0, 0))).alloc (.cells #[.slice none 0 0] 88 (0, 0))).heap.size = w.heap.size + 1 + 1 := by simp
  have HB2 := Lib.hid hB2
  have HG2 := Lib.hid hG2
  have HT2 := Lib.hid hT2
  have HS2 := Lib.hid hS2
  clear hB2 hG2 hT2 hS2
  go_enter Try.func77, Try.ntmps77
  go_upto_region 2 with fail
  revert HB2 HG2 HT2 HS2
  generalize (w.alloc (.cells (bvs l).toArray 29 (0, 0))).alloc (.cells #[.slice none 0 0] 88 (0, 0)) = w2
  intro HB2 HG2 HT2 HS2
  go_upto_region 3 with (first
    | (refine wpList_load_row rfl 29 (.tmp 5) rfl w.heap.size rfl _ _ _ _ HG2.out Try.underlying29 rfl (by rw [HSZ.out]; exact size_sec) ?_)
    | (go_at_call 84; refine (HOP _).out.mono ?_; rintro e w3 ⟨v, rfl, ho3, hb3⟩; obtain ⟨sp, cp, rfl⟩ := own_slice1 ho3; have HO3 := Lib.hid ho3; have HBF := Lib.hid (bnext HB2.out hb3); have HX := Lib.hid (old_heap HT2.out hb3); have HZ3 := Lib.hid (show w.heap.size + 1 + 1 ≤ w3.heap.size from by rw [← HS2.out]; exact hb3.size); clear ho3 hb3))
  clear HOP HG2 HT2 HB2
  cases ho : openB l with
  | false =>
    obtain rfl : oe = 21 := by rw [← HOE.out]; unfold openE; rw [ho]; rfl
    have hno : recordRdOk l = false := by rw [HOKD.out, ho]; rfl
    have HNO := Lib.hid hno
    clear hno
    go_wp2
    go_ret2
    exact rlRcd_no HNO.out rfl HBF.out
  | true =>
    obtain rfl : oe = 0 := by rw [← HOE.out]; unfold openE; rw [ho]; rfl
    by_cases hk : k = 7
    · subst hk
      go_upto_region 6 with fail
      have hg4 := heap_alloc_last w3 (.cells #[.slice sp b.length cp, .int .i64 0, .bool false] 181 (0, 0))
      have hb4 : Below w3.heap.size w3 (w3.alloc (.cells #[.slice sp b.length cp, .int .i64 0, .bool false] 181 (0, 0))) := (Below.refl _ _).alloc (Nat.le_refl _) _
      revert hg4 hb4
      generalize w3.alloc (.cells #[.slice sp b.length cp, .int .i64 0, .bool false] 181 (0, 0)) = w4
      intro hg4 hb4
      have hcr : CrAt w4 w3.heap.size (.slice sp b.length cp) b 0 (decide (b.length < 0)) := ⟨by simpa using hg4, (own_byt HO3.out).1.below hb4, byt_apart (own_byt HO3.out).1⟩
      have hap : Apart (· = w.heap.size + 1) (.slice sp b.length cp) b := own_apart HO3.out (by have := HS2.out; omega)
      have HPP := Lib.hid (pr_records 0 (w.heap.size + 1) 0 #[.slice none 0 0] 88 hcr HBL.out (by decide) (old_heap HX.out hb4) rfl (by have := HZ3.out; omega) hap)
      unfold rV at HPP
      have HB4 := Lib.hid (bnext HBF.out hb4)
      have HS4 := Lib.hid hb4.size
      clear hg4 hb4 hcr hap HX HBF
      go_upto_region 7 with (go_at_call 75; go_must (refine HPP.out.mono ?_; rintro e w5 ⟨v', J, rfl, hlr, hJ1, hJ2⟩; have HLR := Lib.hid hlr; have HJ1 := Lib.hid hJ1; have HJ2 := Lib.hid hJ2; clear hlr hJ1 hJ2))
      clear HPP
      have hcp := HLR.out.form
      have hown := HLR.out.own
      have hcell := HLR.out.cell
      have hBF : Below w.heap.size w w5 := keep_below2 HB4.out HLR.out.keep (Nat.le_refl _) (by have := HZ3.out; omega) (by omega)
      have HBF := Lib.hid hBF
      clear hBF
      obtain ⟨s', c', rfl⟩ := own_slice1 hown
      rw [Nat.zero_add] at hcp
      have HJ1' : Hid (b.length ≤ J * 9) := Lib.hid (by have := HJ1.out; omega)
      have c0 : w5.cell? ⟨w3.heap.size, 0, none⟩ = some (.slice sp b.length cp) := cell_row hcp.box 0
      have c1 : w5.cell? ⟨w3.heap.size, 1, none⟩ = some (.int .i64 ((J * 9 : Nat) : Int)) := cell_row hcp.box 1
      have c2 : w5.cell? ⟨w3.heap.size, 2, none⟩ = some (.bool (decide (b.length < J * 9))) := cell_row hcp.box 2
      have cx : w5.cell? ⟨w.heap.size + 1, 0, none⟩ = some (.slice s' J c') := cell_row hcell 0
      obtain ⟨m, hm⟩ : ∃ m, J * 9 = m := ⟨_, rfl⟩
      rw [hm] at c1 c2
      have HMM := Lib.hid hm
      by_cases hat : m = b.length
      · have hbd : decide (b.length < m) = false := by rw [decide_eq_false_iff_not]; omega
        rw [hbd] at c2
        have hatI : ((m : Int) != (b.length : Int)) = false := by simp [hat]
        have hdiv : b.length / 9 = J := by rw [← hat, ← hm]; exact Nat.mul_div_cancel _ (by decide)
        have hmod : b.length % 9 = 0 := by rw [← hat, ← hm]; exact Nat.mul_mod_left _ _
        have hokd : recordRdOk l = recordsMay (records b 0 J) := by rw [HOKD.out, ho, hmod, hdiv]; simp
        have hrl : ReadAt w5 s' Rcd.cells 4 (records b 0 J) := by
          obtain ⟨A9, c9, e9, -, -, -, h9, -⟩ := own_rows (F := fun _ => False) Rcd.cells_len hown (records_len b 0 J).symm (fun _ _ => id)
          injection e9 with e9
          subst e9
          exact h9
        have hmy := recordsMay_any (records b 0 J) s' c' w5 hrl (by rw [records_len]; have := HBL.out; omega)
        rw [records_len] at hmy
        have HOK2 := Lib.hid hokd
        have HDIV := Lib.hid hdiv
        obtain ⟨q, hq⟩ : ∃ q, recordsMay (records b 0 J) = q := ⟨_, rfl⟩
        rw [hq] at hmy HOK2
        have HMY := Lib.hid hmy
        have HOWN := Lib.hid hown
        have HCELL := Lib.hid hcell
        clear hcp hown hcell hm hat hbd hdiv hmod hokd hrl hmy hq
        cases q with
        | true =>
          go_wp2_with (go_at_call 76; go_must (refine HMY.out.mono ?_; rintro e w6 ⟨rfl, hb6⟩; have cx6 : w6.cell? ⟨w.heap.size + 1, 0, none⟩ = some (.slice s' J c') := cell_row (old_heap HCELL.out hb6) 0; have HB6 := Lib.hid (bnext HBF.out hb6); have HO6 := Lib.hid (own_below HOWN.out hb6); clear hb6))
          go_ret2
          exact rlRcd_yes HOK2.out (by rw [HBE.out, HDIV.out]) rfl (by rw [records_len]; exact own_low HO6.out (Nat.le_trans (by have := HZ3.out; omega) HS4.out)) HB6.out
        | false =>
          have HNO := HOK2
          go_wp2_with (go_at_call 76; go_must (refine HMY.out.mono ?_; rintro e w6 ⟨rfl, hb6⟩; have HB6 := Lib.hid (bnext HBF.out hb6); clear hb6))
          go_ret2
          exact rlRcd_no HNO.out rfl HB6.out
      · have hlt : b.length < m := by have := HJ1'.out; omega
        rw [decide_eq_true hlt] at c2
        have hno : recordRdOk l = false := by
          have h1 : b.length % 9 ≠ 0 := by
            rcases HJ2.out with h | h
            · subst h; omega
            · have hJ0 : J ≠ 0 := fun e => by subst e; omega
              obtain ⟨j, rfl⟩ : ∃ j, J = j + 1 := ⟨J - 1, by omega⟩
              rw [Nat.add_sub_cancel, Nat.zero_add] at h
              exact mod_ne (j := j) (m := 9) h (by omega) (Nat.le_refl _)
          rw [HOKD.out, decide_eq_false h1]; simp
        have HNO := Lib.hid hno
        clear hcp hown hcell hm hat hlt hno
        go_wp2
        go_ret2
        exact rlRcd_no HNO.out rfl HBF.out
    · have hkk : ((k.toNat : Int) != 7) = true := kind_ne k 7 hk
      have hno : recordRdOk l = false := by rw [HOKD.out]; simp [hk]
      have HNO := Lib.hid hno
      clear hk hno
      go_wp2
      go_ret2
      exact rlRcd_no HNO.out rfl HBF.out
set_option maxRecDepth 10000 in
set_option maxHeartbeats 4000000 in
theorem writeRecords_any (L : List Rcd) (A : Option Addr) (c : Nat) (w : World) (hR : ReadAt w A Rcd.cells 4 L) (hA : ∀ a, A = some a → a.block < w.heap.size) (hok : ∀ x ∈ L, x.Ok) (hL : L.length ≤ 1000) :
    Calls Try.prog 34 #[.slice A L.length c] w (WrS w 7 (recordsMay L && !fBad (recordAll L)) (fB (recordAll L))) := by
  have hb1 : Below w.heap.size w (w.alloc (.cells Try.zeroCells29 29 (0, 0))) := (Below.refl _ _).alloc (Nat.le_refl _) _
  have HWR := Lib.hid (wrs_record L A c _ (hR.below Rcd.cells_len hb1) (fun a ha => Nat.lt_of_lt_of_le (hA a ha) hb1.size) hok hL)
  have HT1 := Lib.hid (heap_alloc_last w (.cells Try.zeroCells29 29 (0, 0)))
  have HB1 := Lib.hid hb1
  obtain ⟨ok, hok'⟩ : ∃ ok, (recordsMay L && !fBad (recordAll L)) = ok := ⟨_, rfl⟩
  obtain ⟨B, hB⟩ : ∃ B, fB (recordAll L) = B := ⟨_, rfl⟩
  rw [hok', hB] at HWR
  rw [hok', hB]
  have hS : (bvs (wrS 7 ok B)).toArray.size = 128 := by rw [secV_size, wrS_length]
  have HSS := Lib.hid hS
  clear hb1 hR hA hok hok' hB hS
  unfold WrS at HWR
  go_enter Try.func34, Try.ntmps34
  go_upto_region 1 with fail
  revert HT1 HB1 HWR
  generalize w.alloc (.cells Try.zeroCells29 29 (0, 0)) = w1
  intro HT1 HB1 HWR
  go_wp2_with (first
    | (go_at_call 74; go_must (refine HWR.out.mono ?_; rintro e w2 ⟨rfl, hb2⟩; unfold secV; have HT2 := Lib.hid (old_heap HT1.out hb2); have HB2 := Lib.hid (bnext HB1.out hb2); clear hb2))
    | (refine wpList_store_row rfl 29 (.tmp 2) (.tmp 6) rfl w.heap.size zArr (bvs (wrS 7 ok B)).toArray 29 rfl rfl HT2.out (by rw [HSS.out]; exact size_sec) (by rw [HSS.out, zArr_size]) (sec_one _) ?_))
  have hld := run_loadVar_row (P := Try.prog) (w2.setRow w.heap.size (bvs (wrS 7 ok B)).toArray) w.heap.size 29 29 (bvs (wrS 7 ok B)).toArray (0, 0) _ (setRow_heap _ _ _ _ _ _ HT2.out) Try.underlying29 (by simp) (by rw [HSS.out]; exact size_sec)
  exact bodyPost_ret (v := .tuple #[secV (wrS 7 ok B), .int .i64 (wrE 7 ok B)]) (results_cell2 Try.results34 rfl rfl hld) rfl ⟨rfl, below_row HB2.out (Nat.le_refl _)⟩
set_option maxRecDepth 10000 in
set_option maxHeartbeats 4000000 in
theorem readRecords_any (l : List UInt8) (w : World) (hl : l.length = 128) : Calls Try.prog 36 #[secV l] w (RlRcd w l) := by
  have HSZ : Hid ((bvs l).toArray.size = 128) := by unfold Hid; rw [secV_size, hl]
  have hb1 : Below w.heap.size w (w.alloc (.cells (bvs l).toArray 29 (0, 0))) := (Below.refl _ _).alloc (Nat.le_refl _) _
  have HG1 := Lib.hid (heap_alloc_last w (.cells (bvs l).toArray 29 (0, 0)))
  have HB1 := Lib.hid hb1
  have HRD := Lib.hid (rdl_record l (w.alloc (.cells (bvs l).toArray 29 (0, 0))) hl)
  unfold RlRcd secV at HRD
  obtain ⟨N, hN⟩ : ∃ N, (if recordRdOk l then (0 : Int) else 21) = N := ⟨_, rfl⟩
  unfold RlRcd
  rw [hN] at HRD ⊢
  clear hb1 hl hN
  unfold secV
  go_enter Try.func36, Try.ntmps36
  go_upto_region 1 with fail
  revert HG1 HB1 HRD
  generalize w.alloc (.cells (bvs l).toArray 29 (0, 0)) = w1
  intro HG1 HB1 HRD
  go_wp2_with (first
    | (refine wpList_load_row rfl 29 (.tmp 1) rfl w.heap.size rfl _ _ _ _ HG1.out Try.underlying29 rfl (by rw [HSZ.out]; exact size_sec) ?_)
    | (go_at_call 77; go_must (refine HRD.out.mono ?_; rintro e w2 ⟨v', rfl, ho2, hb2⟩; have HO2 := Lib.hid ho2; have HB2 := Lib.hid (bnext HB1.out hb2); clear ho2 hb2)))
  go_ret2
  exact ⟨_, rfl, own_low HO2.out HB1.out.size, HB2.out⟩
end Go.Proofs.Ytlcbfpcabalgcaa
