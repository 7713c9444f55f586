/-
  Codec: lists of records as sectors, and back: the program's.
-/
import Derived.Test.YtcpfafmkhegckaaMgKinds8
import Derived.Test.YtcpfafmkhegckaaMgKinds5
import Derived.Test.YtcpfafmkhegckaaMgKinds6
import Derived.Test.YtcpfafmkhegckaaMgKinds4
import Derived.Test.YtcpfafmkhegckaaMgKinds7
import Derived.Laws.EntriesVeiled
import Derived.Test.YtcpfafmkhegckaaMgKinds2
namespace Go.Proofs.Ytcpfafmkhegckaa
open Go.RowKit
set_option linter.unusedVariables false
set_option linter.unusedSimpArgs false
set_option linter.unnecessarySimpa false
set_option maxRecDepth 10000 in
set_option maxHeartbeats 8000000 in
theorem wrl_record (kind : UInt8) (A : Option Addr) (nl c : Nat) (mayb : Bool) (L : List UInt8) (bad : Bool) (w : World)
    (hm : ∀ w', Below w.heap.size w w' → Calls Try.prog 64 #[.slice A nl c] w' fun e w'' => e = .returned (.bool mayb) ∧ Below w'.heap.size w' w'')
    (hp : ∀ w' base g pb, Below w.heap.size w w' → CwAt w' base g [] false → w'.heap[pb]? = some (.cells #[.slice A nl c] 130 (0, 0)) → base ≤ w'.heap.size → pb < base → w.heap.size ≤ base → Calls Try.prog 63 #[wV g, .pointer (some ⟨pb, 0, none⟩)] w' (CwTo w' base g L bad)) :
    Calls Try.prog 62 #[.int .u8 (kind.toNat : Int), .slice A nl c, .func (.func 63) #[] #[], .func (.func 64) #[] #[]] w (WrS w kind (mayb && !bad) L) := by
  have HM := Lib.hid hm
  have HP := Lib.hid hp
  clear hm hp
  go_enter Try.func62, Try.ntmps62
  go_upto_region 2 with fail
  have hA := a3 w (.cells #[.slice A nl c] 130 (0, 0)) (.cells Try.zeroCells36 36 (0, 0)) (.cells #[.slice none 0 0, .bool false] 198 (0, 0))
  revert hA
  generalize ((w.alloc (.cells #[.slice A nl c] 130 (0, 0))).alloc (.cells Try.zeroCells36 36 (0, 0))).alloc (.cells #[.slice none 0 0, .bool false] 198 (0, 0)) = w2
  intro hA
  have HA := Lib.hid hA
  clear hA
  have c5 : w2.cell? ⟨w.heap.size, 0, none⟩ = some (.slice A nl c) := cell_row HA.out.h0 0
  cases mayb with
  | false =>
    go_wp2_with (first
      | (go_at_call 64; refine (HM.out w2 HA.out.bel).mono ?_; rintro e w3 ⟨rfl, hb3⟩; have HT := Lib.hid (old_heap HA.out.h1 hb3); have HB := Lib.hid (bnext HA.out.bel hb3); clear hb3)
      | (refine wpList_store_row rfl 36 (.tmp 8) (.tmp 17) rfl (w.heap.size + 1) zArr zArr 36 rfl rfl HT.out (by rw [zArr_size]; exact size_sec) rfl zArr_one ?_))
    have hld := run_loadVar_row (P := Try.prog) (w3.setRow (w.heap.size + 1) zArr) (w.heap.size + 1) 36 36 zArr (0, 0) _ (setRow_heap _ _ _ _ _ _ HT.out) Try.underlying36 (by simp) (by rw [zArr_size]; exact size_sec)
    exact bodyPost_ret (v := .tuple #[secV (List.replicate 128 0), .int .i64 1]) (results_cell2 Try.results62 rfl rfl hld) rfl (wrS_no rfl rfl (below_row HB.out (by omega)))
  | true =>
    go_upto_region 4 with (first
      | (go_at_call 64; refine (HM.out w2 HA.out.bel).mono ?_; rintro e w3 ⟨rfl, hb3⟩; have HB := Lib.hid (bnext HA.out.bel hb3); have HX := Lib.hid (old_heap HA.out.h0 hb3); have HT := Lib.hid (old_heap HA.out.h1 hb3); have HG := Lib.hid (old_heap HA.out.h2 hb3); clear hb3))
    have hgl := (Array.getElem?_eq_some_iff.1 HG.out).1
    have hcw : CwAt w3 (w.heap.size + 1 + 1) (w.heap.size + 1 + 1) [] false := ⟨.slice none 0 0, HG.out, own_none _ _ _, Nat.le_refl _, fun k hk => by cases hk⟩
    have hpp := HP.out w3 (w.heap.size + 1 + 1) (w.heap.size + 1 + 1) w.heap.size HB.out hcw HX.out (by omega) (by omega) (by omega)
    unfold CwTo wV at hpp
    have HPP := Lib.hid hpp
    clear hpp hcw hgl
    go_upto_region 5 with (go_at_call 63; refine HPP.out.mono ?_; rintro e w4 ⟨rfl, hcw, hb4⟩; have HB4 := Lib.hid (HB.out.trans (hb4.mono (by omega))); have HT4 := Lib.hid ((hb4.block (w.heap.size + 1) (by omega)).trans HT.out); have HCW := Lib.hid hcw; clear hcw hb4)
    obtain ⟨v4, hg4, ho4, -, -⟩ := HCW.out
    obtain ⟨sp4, cp4, rfl⟩ := own_slice1 ho4
    have HMK := Lib.hid (make_any kind _ L w4 (own_byt ho4).1)
    have c0 : w4.cell? ⟨w.heap.size + 1 + 1, 0, none⟩ = some (.slice sp4 L.length cp4) := cell_row hg4 0
    have c1 : w4.cell? ⟨w.heap.size + 1 + 1, 1, none⟩ = some (.bool bad) := cell_row hg4 1
    have hms : (bvs (makeS kind L)).toArray.size = 128 := by rw [secV_size, makeS_length]
    have HMS := Lib.hid hms
    clear hg4 ho4 HPP HCW HX HG HM HP hms
    cases bad with
    | true =>
      go_wp2_with (refine wpList_store_row rfl 36 (.tmp 8) (.tmp 26) rfl (w.heap.size + 1) zArr zArr 36 rfl rfl HT4.out (by rw [zArr_size]; exact size_sec) rfl zArr_one ?_)
      have hld := run_loadVar_row (P := Try.prog) (w4.setRow (w.heap.size + 1) zArr) (w.heap.size + 1) 36 36 zArr (0, 0) _ (setRow_heap _ _ _ _ _ _ HT4.out) Try.underlying36 (by simp) (by rw [zArr_size]; exact size_sec)
      exact bodyPost_ret (v := .tuple #[secV (List.replicate 128 0), .int .i64 1]) (results_cell2 Try.results62 rfl rfl hld) rfl (wrS_no rfl rfl (below_row HB4.out (by omega)))
    | false =>
      obtain ⟨S, hS⟩ : ∃ S, makeS kind L = S := ⟨_, rfl⟩
      obtain ⟨N, hN⟩ : ∃ N, makeE kind L = N := ⟨_, rfl⟩
      rw [hS, hN] at HMK
      rw [hS] at HMS
      have HS := Lib.hid hS
      have HN := Lib.hid hN
      clear hS hN
      unfold secV at HMK
      go_wp2_with (first
        | (go_at_call 53; refine HMK.out.mono ?_; rintro e w5 ⟨rfl, hb5⟩; have HT5 := Lib.hid (old_heap HT4.out hb5); have HB5 := Lib.hid (bnext HB4.out hb5); clear hb5)
        | (refine wpList_store_row rfl 36 (.tmp 8) (.tmp 33) rfl (w.heap.size + 1) zArr (bvs S).toArray 36 rfl rfl HT5.out (by rw [HMS.out]; exact size_sec) (by rw [HMS.out, zArr_size]) (sec_one _) ?_))
      have hld := run_loadVar_row (P := Try.prog) (w5.setRow (w.heap.size + 1) (bvs S).toArray) (w.heap.size + 1) 36 36 (bvs S).toArray (0, 0) _ (setRow_heap _ _ _ _ _ _ HT5.out) Try.underlying36 (by simp) (by rw [HMS.out]; exact size_sec)
      exact bodyPost_ret (v := .tuple #[secV S, .int .i64 N]) (results_cell2 Try.results62 rfl rfl hld) rfl (wrS_yes rfl (by rw [HS.out, HN.out]) (below_row HB5.out (by omega)))
theorem wrs_record (L : List Rcd) (A : Option Addr) (c : Nat) (w : World) (hR : ReadAt w A Rcd.cells 4 L) (hA : ∀ a, A = some a → a.block < w.heap.size) (hok : ∀ x ∈ L, x.Ok) (hL : L.length ≤ 1000) :
    Calls Try.prog 62 #[.int .u8 7, .slice A L.length c, .func (.func 63) #[] #[], .func (.func 64) #[] #[]] w (WrS w 7 (recordsMay L && !fBad (recordAll L)) (fB (recordAll L))) :=
  wrl_record 7 A L.length c (recordsMay L) (fB (recordAll L)) (fBad (recordAll L)) w (fun w' hb => recordsMay_any L A c w' (hR.below Rcd.cells_len hb) (by omega))
    (fun w' base g pb hb hcw hpb hbs hpl hwb => by
      have := pw_records L A c pb 0 hcw (cell_row hpb 0) (hR.below Rcd.cells_len hb) (fun a ha => Nat.lt_of_lt_of_le (hA a ha) hwb) hpl hok (by simp) hL hbs
      simpa using this)
def recordRdOk (l : List UInt8) : Bool := (openB l && decide (openK l = 7)) && (decide ((openL l).length % 9 = 0) && recordsMay (records (openL l) 0 ((openL l).length / 9)))
def recordRdL (l : List UInt8) : List Rcd := if recordRdOk l then records (openL l) 0 ((openL l).length / 9) else []
/-- What reading comes to. -/
def RlRcd (w : World) (l : List UInt8) (e : Ending) (w' : World) : Prop :=
  ∃ v', e = .returned (.tuple #[v', .int .i64 (if recordRdOk l then 0 else 21)]) ∧ w'.ownsRow w.heap.size 204 4 v' (recordRdL l).length (rowsOf Rcd.cells (recordRdL l)) ∧ Below w.heap.size w w'
theorem rlRcd_no {w w' : World} {l : List UInt8} {e : Ending} (h : recordRdOk l = false) (he : e = .returned (.tuple #[.slice none 0 0, .int .i64 21])) (hb : Below w.heap.size w w') : RlRcd w l e w' := by
  unfold RlRcd recordRdL
  rw [h]
  exact ⟨_, he, own_nilk _ _ _ _, hb⟩
theorem rlRcd_yes {w w' : World} {l : List UInt8} {e : Ending} {v' : Value} {L : List Rcd} (h : recordRdOk l = true) (hL : records (openL l) 0 ((openL l).length / 9) = L) (he : e = .returned (.tuple #[v', .int .i64 0])) (ho : w'.ownsRow w.heap.size 204 4 v' L.length (rowsOf Rcd.cells L)) (hb : Below w.heap.size w w') : RlRcd w l e w' := by
  unfold RlRcd recordRdL
  rw [h, if_pos rfl, if_pos rfl, hL]
  exact ⟨_, he, ho, hb⟩
set_option maxRecDepth 10000 in
set_option maxHeartbeats 8000000 in
theorem rdl_record (l : List UInt8) (w : World) (hl : l.length = 128) :
    Calls Try.prog 128 #[.int .u8 7, secV l, .func (.func 63) #[] #[], .func (.func 64) #[] #[]] w (RlRcd w l) := by
  have HSZ : Hid ((bvs l).toArray.size = 128) := by unfold Hid; rw [secV_size, hl]
  have HBL := Lib.hid (openL_le l)
  have hop := fun w' => open_any l w' hl
  obtain ⟨k, hk⟩ : ∃ k, openK l = k := ⟨_, rfl⟩
  obtain ⟨b, hb⟩ : ∃ b, openL l = b := ⟨_, rfl⟩
  obtain ⟨oe, hoe⟩ : ∃ oe, openE l = oe := ⟨_, rfl⟩
  rw [hk, hb, hoe] at hop
  rw [hb] at HBL
  have hokd : recordRdOk l = ((openB l && decide (k = 7)) && (decide (b.length % 9 = 0) && recordsMay (records b 0 (b.length / 9)))) := by unfold recordRdOk; rw [hk, hb]
  have HOKD := Lib.hid hokd
  have HBE := Lib.hid hb
  have HOP := fun w' => Lib.hid (hop w')
  have HOE := Lib.hid hoe
  clear hop hk hb hoe hl hokd
  unfold secV at HOP ⊢
  unfold OpTo at HOP
  have hB2 : Below w.heap.size w ((w.alloc (.cells (bvs l).toArray 36 (0, 0))).alloc (.cells #[.slice none 0 0] 130 (0, 0))) := ((Below.refl _ _).alloc (Nat.le_refl _) _).alloc (by simp) _
  have hG2 := old_heap (heap_alloc_last w (.cells (bvs l).toArray 36 (0, 0))) ((Below.refl _ _).alloc (Nat.le_refl _) (.cells #[.slice none 0 0] 130 (0, 0)))
  have hT2 := heap_alloc_last (w.alloc (.cells (bvs l).toArray 36 (0, 0))) (.cells #[.slice none 0 0] 130 (0, 0))
  rw [show (w.alloc (.cells (bvs l).toArray 36 (0, 0))).heap.size = w.heap.size + 1 by simp] at hT2
  have hS2 : ((w.alloc (.cells (bvs l).toArray 36 (0, 0))).alloc (.cells #[.slice none 0 0] 130 (0, 0))).heap.size = w.heap.size + 1 + 1 := by simp
  have HB2 := Lib.hid hB2
  have HG2 := Lib.hid hG2
  have HT2 := Lib.hid hT2
  have HS2 := Lib.hid hS2
  clear hB2 hG2 hT2 hS2
  go_enter Try.func128, Try.ntmps128
  go_upto_region 2 with fail
  revert HB2 HG2 HT2 HS2
  generalize (w.alloc (.cells (bvs l).toArray 36 (0, 0))).alloc (.cells #[.slice none 0 0] 130 (0, 0)) = w2
  intro HB2 HG2 HT2 HS2
  go_upto_region 3 with (first
    | (refine wpList_load_row rfl 36 (.tmp 5) rfl w.heap.size rfl _ _ _ _ HG2.out Try.underlying36 rfl (by rw [HSZ.out]; exact size_sec) ?_)
    | (go_at_call 58; refine (HOP _).out.mono ?_; rintro e w3 ⟨v, rfl, ho3, hb3⟩; obtain ⟨sp, cp, rfl⟩ := own_slice1 ho3; have HO3 := Lib.hid ho3; have HBF := Lib.hid (bnext HB2.out hb3); have HX := Lib.hid (old_heap HT2.out hb3); have HZ3 := Lib.hid (show w.heap.size + 1 + 1 ≤ w3.heap.size from by rw [← HS2.out]; exact hb3.size); clear ho3 hb3))
  clear HOP HG2 HT2 HB2
  cases ho : openB l with
  | false =>
    obtain rfl : oe = 21 := by rw [← HOE.out]; unfold openE; rw [ho]; rfl
    have hno : recordRdOk l = false := by rw [HOKD.out, ho]; rfl
    have HNO := Lib.hid hno
    clear hno
    go_wp2
    go_ret2
    exact rlRcd_no HNO.out rfl HBF.out
  | true =>
    obtain rfl : oe = 0 := by rw [← HOE.out]; unfold openE; rw [ho]; rfl
    by_cases hk : k = 7
    · subst hk
      go_upto_region 6 with fail
      have hg4 := heap_alloc_last w3 (.cells #[.slice sp b.length cp, .int .i64 0, .bool false] 242 (0, 0))
      have hb4 : Below w3.heap.size w3 (w3.alloc (.cells #[.slice sp b.length cp, .int .i64 0, .bool false] 242 (0, 0))) := (Below.refl _ _).alloc (Nat.le_refl _) _
      revert hg4 hb4
      generalize w3.alloc (.cells #[.slice sp b.length cp, .int .i64 0, .bool false] 242 (0, 0)) = w4
      intro hg4 hb4
      have hcr : CrAt w4 w3.heap.size (.slice sp b.length cp) b 0 (decide (b.length < 0)) := ⟨by simpa using hg4, (own_byt HO3.out).1.below hb4, byt_apart (own_byt HO3.out).1⟩
      have hap : Apart (· = w.heap.size + 1) (.slice sp b.length cp) b := own_apart HO3.out (by have := HS2.out; omega)
      have HPP := Lib.hid (pr_records 0 (w.heap.size + 1) 0 #[.slice none 0 0] 130 hcr HBL.out (by decide) (old_heap HX.out hb4) rfl (by have := HZ3.out; omega) hap)
      unfold rV at HPP
      have HB4 := Lib.hid (bnext HBF.out hb4)
      have HS4 := Lib.hid hb4.size
      clear hg4 hb4 hcr hap HX HBF
      go_upto_region 7 with (go_at_call 63; go_must (refine HPP.out.mono ?_; rintro e w5 ⟨v', J, rfl, hlr, hJ1, hJ2⟩; have HLR := Lib.hid hlr; have HJ1 := Lib.hid hJ1; have HJ2 := Lib.hid hJ2; clear hlr hJ1 hJ2))
      clear HPP
      have hcp := HLR.out.form
      have hown := HLR.out.own
      have hcell := HLR.out.cell
      have hBF : Below w.heap.size w w5 := keep_below2 HB4.out HLR.out.keep (Nat.le_refl _) (by have := HZ3.out; omega) (by omega)
      have HBF := Lib.hid hBF
      clear hBF
      obtain ⟨s', c', rfl⟩ := own_slice1 hown
      rw [Nat.zero_add] at hcp
      have HJ1' : Hid (b.length ≤ J * 9) := Lib.hid (by have := HJ1.out; omega)
      have c0 : w5.cell? ⟨w3.heap.size, 0, none⟩ = some (.slice sp b.length cp) := cell_row hcp.box 0
      have c1 : w5.cell? ⟨w3.heap.size, 1, none⟩ = some (.int .i64 ((J * 9 : Nat) : Int)) := cell_row hcp.box 1
      have c2 : w5.cell? ⟨w3.heap.size, 2, none⟩ = some (.bool (decide (b.length < J * 9))) := cell_row hcp.box 2
      have cx : w5.cell? ⟨w.heap.size + 1, 0, none⟩ = some (.slice s' J c') := cell_row hcell 0
      obtain ⟨m, hm⟩ : ∃ m, J * 9 = m := ⟨_, rfl⟩
      rw [hm] at c1 c2
      have HMM := Lib.hid hm
      by_cases hat : m = b.length
      · have hbd : decide (b.length < m) = false := by rw [decide_eq_false_iff_not]; omega
        rw [hbd] at c2
        have hatI : ((m : Int) != (b.length : Int)) = false := by simp [hat]
        have hdiv : b.length / 9 = J := by rw [← hat, ← hm]; exact Nat.mul_div_cancel _ (by decide)
        have hmod : b.length % 9 = 0 := by rw [← hat, ← hm]; exact Nat.mul_mod_left _ _
        have hokd : recordRdOk l = recordsMay (records b 0 J) := by rw [HOKD.out, ho, hmod, hdiv]; simp
        have hrl : ReadAt w5 s' Rcd.cells 4 (records b 0 J) := by
          obtain ⟨A9, c9, e9, -, -, -, h9, -⟩ := own_rows (F := fun _ => False) Rcd.cells_len hown (records_len b 0 J).symm (fun _ _ => id)
          injection e9 with e9
          subst e9
          exact h9
        have hmy := recordsMay_any (records b 0 J) s' c' w5 hrl (by rw [records_len]; have := HBL.out; omega)
        rw [records_len] at hmy
        have HOK2 := Lib.hid hokd
        have HDIV := Lib.hid hdiv
        obtain ⟨q, hq⟩ : ∃ q, recordsMay (records b 0 J) = q := ⟨_, rfl⟩
        rw [hq] at hmy HOK2
        have HMY := Lib.hid hmy
        have HOWN := Lib.hid hown
        have HCELL := Lib.hid hcell
        clear hcp hown hcell hm hat hbd hdiv hmod hokd hrl hmy hq
        cases q with
        | true =>
          go_wp2_with (go_at_call 64; go_must (refine HMY.out.mono ?_; rintro e w6 ⟨rfl, hb6⟩; have cx6 : w6.cell? ⟨w.heap.size + 1, 0, none⟩ = some (.slice s' J c') := cell_row (old_heap HCELL.out hb6) 0; have HB6 := Lib.hid (bnext HBF.out hb6); have HO6 := Lib.hid (own_below HOWN.out hb6); clear hb6))
          go_ret2
          exact rlRcd_yes HOK2.out (by rw [HBE.out, HDIV.out]) rfl (by rw [records_len]; exact own_low HO6.out (Nat.le_trans (by have := HZ3.out; omega) HS4.out)) HB6.out
        | false =>
          have HNO := HOK2
          go_wp2_with (go_at_call 64; go_must (refine HMY.out.mono ?_; rintro e w6 ⟨rfl, hb6⟩; have HB6 := Lib.hid (bnext HBF.out hb6); clear hb6))
          go_ret2
          exact rlRcd_no HNO.out rfl HB6.out
      · have hlt : b.length < m := by have := HJ1'.out; omega
        rw [decide_eq_true hlt] at c2
        have hno : recordRdOk l = false := by
          have h1 : b.length % 9 ≠ 0 := by
            rcases HJ2.out with h | h
            · subst h; omega
            · have hJ0 : J ≠ 0 := fun e => by subst e; omega
              obtain ⟨j, rfl⟩ : ∃ j, J = j + 1 := ⟨J - 1, by omega⟩
              rw [Nat.add_sub_cancel, Nat.zero_add] at h
              exact mod_ne (j := j) (m := 9) h (by omega) (Nat.le_refl _)
          rw [HOKD.out, decide_eq_false h1]; simp
        have HNO := Lib.hid hno
        clear hcp hown hcell hm hat hlt hno
        go_wp2
        go_ret2
        exact rlRcd_no HNO.out rfl HBF.out
    · have hkk : ((k.toNat : Int) != 7) = true := kind_ne k 7 hk
      have hno : recordRdOk l = false := by rw [HOKD.out]; simp [hk]
      have HNO := Lib.hid hno
      clear hk hno
      go_wp2
      go_ret2
      exact rlRcd_no HNO.out rfl HBF.out
set_option maxRecDepth 10000 in
set_option maxHeartbeats 4000000 in
theorem writeRecords_any (L : List Rcd) (A : Option Addr) (c : Nat) (w : World) (hR : ReadAt w A Rcd.cells 4 L) (hA : ∀ a, A = some a → a.block < w.heap.size) (hok : ∀ x ∈ L, x.Ok) (hL : L.length ≤ 1000) :
    Calls Try.prog 18 #[.slice A L.length c] w (WrS w 7 (recordsMay L && !fBad (recordAll L)) (fB (recordAll L))) := by
  have hb1 : Below w.heap.size w (w.alloc (.cells Try.zeroCells36 36 (0, 0))) := (Below.refl _ _).alloc (Nat.le_refl _) _
  have HWR := Lib.hid (wrs_record L A c _ (hR.below Rcd.cells_len hb1) (fun a ha => Nat.lt_of_lt_of_le (hA a ha) hb1.size) hok hL)
  have HT1 := Lib.hid (heap_alloc_last w (.cells Try.zeroCells36 36 (0, 0)))
  have HB1 := Lib.hid hb1
  obtain ⟨ok, hok'⟩ : ∃ ok, (recordsMay L && !fBad (recordAll L)) = ok := ⟨_, rfl⟩
  obtain ⟨B, hB⟩ : ∃ B, fB (recordAll L) = B := ⟨_, rfl⟩
  rw [hok', hB] at HWR
  rw [hok', hB]
  have hS : (bvs (wrS 7 ok B)).toArray.size = 128 := by rw [secV_size, wrS_length]
  have HSS := Lib.hid hS
  clear hb1 hR hA hok hok' hB hS
  unfold WrS at HWR
  go_enter Try.func18, Try.ntmps18
  go_upto_region 1 with fail
  revert HT1 HB1 HWR
  generalize w.alloc (.cells Try.zeroCells36 36 (0, 0)) = w1
  intro HT1 HB1 HWR
  go_wp2_with (first
    | (go_at_call 62; go_must (refine HWR.out.mono ?_; rintro e w2 ⟨rfl, hb2⟩; unfold secV; have HT2 := Lib.hid (old_heap HT1.out hb2); have HB2 := Lib.hid (bnext HB1.out hb2); clear hb2))
    | (refine wpList_store_row rfl 36 (.tmp 2) (.tmp 6) rfl w.heap.size zArr (bvs (wrS 7 ok B)).toArray 36 rfl rfl HT2.out (by rw [HSS.out]; exact size_sec) (by rw [HSS.out, zArr_size]) (sec_one _) ?_))
  have hld := run_loadVar_row (P := Try.prog) (w2.setRow w.heap.size (bvs (wrS 7 ok B)).toArray) w.heap.size 36 36 (bvs (wrS 7 ok B)).toArray (0, 0) _ (setRow_heap _ _ _ _ _ _ HT2.out) Try.underlying36 (by simp) (by rw [HSS.out]; exact size_sec)
  exact bodyPost_ret (v := .tuple #[secV (wrS 7 ok B), .int .i64 (wrE 7 ok B)]) (results_cell2 Try.results18 rfl rfl hld) rfl ⟨rfl, below_row HB2.out (Nat.le_refl _)⟩
set_option maxRecDepth 10000 in
set_option maxHeartbeats 4000000 in
theorem readRecords_any (l : List UInt8) (w : World) (hl : l.length = 128) : Calls Try.prog 69 #[secV l] w (RlRcd w l) := by
  have HSZ : Hid ((bvs l).toArray.size = 128) := by unfold Hid; rw [secV_size, hl]
  have hb1 : Below w.heap.size w (w.alloc (.cells (bvs l).toArray 36 (0, 0))) := (Below.refl _ _).alloc (Nat.le_refl _) _
  have HG1 := Lib.hid (heap_alloc_last w (.cells (bvs l).toArray 36 (0, 0)))
  have HB1 := Lib.hid hb1
  have HRD := Lib.hid (rdl_record l (w.alloc (.cells (bvs l).toArray 36 (0, 0))) hl)
  unfold RlRcd secV at HRD
  obtain ⟨N, hN⟩ : ∃ N, (if recordRdOk l then (0 : Int) else 21) = N := ⟨_, rfl⟩
  unfold RlRcd
  rw [hN] at HRD ⊢
  clear hb1 hl hN
  unfold secV
  go_enter Try.func69, Try.ntmps69
  go_upto_region 1 with fail
  revert HG1 HB1 HRD
  generalize w.alloc (.cells (bvs l).toArray 36 (0, 0)) = w1
  intro HG1 HB1 HRD
  go_wp2_with (first
    | (refine wpList_load_row rfl 36 (.tmp 1) rfl w.heap.size rfl _ _ _ _ HG1.out Try.underlying36 rfl (by rw [HSZ.out]; exact size_sec) ?_)
    | (go_at_call 128; go_must (refine HRD.out.mono ?_; rintro e w2 ⟨v', rfl, ho2, hb2⟩; have HO2 := Lib.hid ho2; have HB2 := Lib.hid (bnext HB1.out hb2); clear ho2 hb2)))
  go_ret2
  exact ⟨_, rfl, own_low HO2.out HB1.out.size, HB2.out⟩
end Go.Proofs.Ytcpfafmkhegckaa
/-
  Codec: lists of entrys.
-/
namespace Go.Proofs.Ytcpfafmkhegckaa
open Go.RowKit
set_option linter.unusedVariables false
set_option linter.unusedSimpArgs false
set_option linter.unnecessarySimpa false
structure Ent5 where
  kind : Int
  num : Nat
  ver : Nat
  idx : Int
structure Ent5.Ok (x : Ent5) : Prop where
  kind : I64 x.kind
  num : x.num < 2 ^ 32
  ver : x.ver < 2 ^ 32
  idx : I64 x.idx
def Ent5.cells (x : Ent5) : List Value := [.int .i64 x.kind, .int .u32 (x.num : Int), .int .u32 (x.ver : Int), .int .i64 x.idx]
theorem Ent5.cells_len (x : Ent5) : x.cells.length = 4 := rfl
theorem Ent5.cells_one (x : Ent5) : ∀ u ∈ x.cells, u.oneCell' = true := by
  intro u hu
  simp only [Ent5.cells, List.mem_cons, List.not_mem_nil, or_false] at hu
  rcases hu with rfl | rfl | rfl | rfl <;> rfl
def entryL (x : Ent5) : List (Nat × Int) := [(1, x.kind), (2, (x.num : Int)), (4, (x.ver : Int)), (2, x.idx)]
def entryAll (L : List Ent5) : List (Nat × Int) := L.flatMap entryL
theorem entryAll_snoc (L : List Ent5) (k : Nat) (x : Ent5) (h : L[k]? = some x) : entryAll (L.take (k + 1)) = entryAll (L.take k) ++ entryL x := by
  obtain ⟨hk, rfl⟩ := List.getElem?_eq_some_iff.1 h
  unfold entryAll
  rw [List.take_succ_eq_append_getElem hk, List.flatMap_append]; simp
theorem entryAll_len (L : List Ent5) : (fB (entryAll L)).length = 9 * L.length := by
  induction L with
  | nil => rfl
  | cons x r ih =>
    have h1 : entryAll (x :: r) = entryL x ++ entryAll r := by simp [entryAll]
    rw [h1, fB_append, List.length_append, ih, fB_len, List.length_cons]
    have h2 : ((entryL x).map (·.1)).sum = 9 := rfl
    rw [h2]; omega
def rentry (l : List UInt8) (a : Nat) : Ent5 := ⟨(rN l a 1 : Int), rN l (a + 1) 2, rN l ((a + 1) + 2) 4, (rN l (((a + 1) + 2) + 4) 2 : Int)⟩
theorem rentry_ok (l : List UInt8) (a : Nat) : (rentry l a).Ok := by
  have h := fun a k (hk : k ≤ 4) => Nat.lt_of_lt_of_le (rN_lt l a k) (Nat.pow_le_pow_right (n := 256) (by decide) hk)
  have hi : ∀ a k, k ≤ 4 → I64 (rN l a k : Int) := fun a k hk => by have := h a k hk; exact ⟨by omega, by omega⟩
  exact ⟨hi _ _ (by decide), h _ _ (by decide), h _ _ (by decide), hi _ _ (by decide)⟩
theorem infoEntry3 : (Try.prog.info? 155).map (fun i => (i.zero, i.size, i.bytes)) = some (some (.agg #[.int .i64 0, .int .u32 0, .int .u32 0, .int .i64 0]), 4, 24) := by kernel_rfl
theorem entry_bad (l : List UInt8) (a : Nat) : (((((decide (l.length < a)) || !rOk l a 1) || !rOk l (a + 1) 2) || !rOk l ((a + 1) + 2) 4) || !rOk l (((a + 1) + 2) + 4) 2) = decide (l.length < a + 9) := by
  rw [bad_next l _ 1 (by decide), bad_next l _ 2 (by decide), bad_next l _ 4 (by decide), bad_next l _ 2 (by decide)]
/-- One of them, when it writes. -/
theorem pw_entry' {w : World} {base g : Nat} {l : List UInt8} {bad : Bool} (x : Ent5) (hx : x.Ok) (pb po : Nat) (h : CwAt w base g l bad) (hr : w.rangeAt pb po x.cells) (hl : l.length ≤ 90000) (hbs : base ≤ w.heap.size) (hpb : pb < base) :
    Calls Try.prog 131 #[wV g, .pointer (some ⟨pb, po, none⟩)] w (CwTo w base g (l ++ fB (entryL x)) (bad || fBad (entryL x))) :=
  pw_entry x.kind x.num x.ver x.idx pb po h (hr 0 _ rfl) (hr 1 _ rfl) (hr 2 _ rfl) (hr 3 _ rfl) hx.kind hx.num hx.ver hx.idx hl hbs hpb
/-- One of them, when it reads. -/
theorem pr_entry' {w : World} {g a pb : Nat} {v : Value} {l : List UInt8} {bad : Bool} (h : CrAt w g v l a bad) (hbad : bad = decide (l.length < a)) (ha : a ≤ 900) (hl : l.length ≤ 1000) (hb : w.heap[pb]? = some (.cells #[.int .i64 0, .int .u32 0, .int .u32 0, .int .i64 0] 155 (0, 0))) (hpg : pb ≠ g) (hv : Apart (· = pb) v l) :
    Calls Try.prog 131 #[rV g, .pointer (some ⟨pb, 0, none⟩)] w fun e w' => e = .returned (.tuple #[]) ∧ CrPass w g v l (a + 9) (decide (l.length < a + 9)) pb (rentry l a).cells.toArray 155 w' := by
  refine (pr_entry pb 0 _ 155 0 0 0 0 h ha hl hb rfl rfl rfl rfl hpg hv).mono fun e w' ⟨h1, h2⟩ => ⟨h1, ?_⟩
  rw [hbad, entry_bad] at h2
  exact h2
set_option maxRecDepth 10000 in
set_option maxHeartbeats 8000000 in
theorem lw_entry {w : World} {base g : Nat} {l : List UInt8} {bad : Bool} (L : List Ent5) (A : Option Addr) (c : Nat) (pb po : Nat) (h : CwAt w base g l bad) (hc : w.cell? ⟨pb, po, none⟩ = some (.slice A L.length c)) (hR : ReadAt w A Ent5.cells 4 L)
    (hA : ∀ a, A = some a → a.block < base) (hpb : pb < base) (hok : ∀ x ∈ L, x.Ok) (hl : l.length ≤ 1000) (hL : L.length ≤ 1000) (hbs : base ≤ w.heap.size) :
    Calls Try.prog 130 #[wV g, .pointer (some ⟨pb, po, none⟩), .func (.func 131) #[] #[]] w (CwTo w base g (l ++ fB (entryAll L)) (bad || fBad (entryAll L))) := by
  have HW := Lib.hid (show CwAt w base g (l ++ fB (entryAll (L.take 0))) (bad || fBad (entryAll (L.take 0))) by simpa [entryAll, fB, fBad] using h)
  have HC := Lib.hid hc
  have HR := Lib.hid hR
  have HA := Lib.hid hA
  have HOK := Lib.hid hok
  have na_more := fun W => na_w ⟨g, 0, none⟩ W "drumlin/codec.more" (by simp)
  have mt_more := fun W => mw_more ⟨g, 0, none⟩ W
  clear h hR hA hok
  unfold wV
  unfold CwTo
  go_enter Try.func130, Try.ntmps130
  go_wp2
  clear hc
  go_loopw [12] (fun i wr => ∃ k : Nat, k ≤ L.length ∧ i = .int .i64 (k : Int) ∧ Hid (CwAt wr base g (l ++ fB (entryAll (L.take k))) (bad || fBad (entryAll (L.take k)))) ∧ Hid (Below base w wr)) (fun i _ => (L.length - intOf i).toNat)
  case atStart => exact ⟨0, by omega, rfl, HW, Lib.hid (Below.refl _ _)⟩
  case round =>
    obtain ⟨k, hk, rfl, HWk, HBk⟩ := hrel
    clear HW
    have hc := (HBk.out.cell (p := ⟨pb, po, none⟩) hpb).trans HC.out
    by_cases hlt : k < L.length
    · obtain ⟨x, hx⟩ : ∃ x, L[k]? = some x := ⟨_, List.getElem?_eq_getElem hlt⟩
      obtain ⟨b, o, rfl, hr⟩ := rows_at Ent5.cells_len HR.out hx
      have hbl := HA.out _ rfl
      dsimp only at hbl
      have hr2 : wr.rangeAt b (o + k * 4) x.cells := fun j u hu => (HBk.out.cell (p := ⟨b, o + k * 4 + j, none⟩) hbl).trans (hr j u hu)
      have hlen : (l ++ fB (entryAll (L.take k))).length ≤ 90000 := by
        rw [List.length_append, entryAll_len]
        have : (L.take k).length ≤ k := List.length_take_le _ _
        omega
      have HP := Lib.hid (pw_entry' x (HOK.out x (List.mem_of_getElem? hx)) b (o + k * 4) HWk.out hr2 hlen (Nat.le_trans hbs HBk.out.size) hbl)
      unfold wV CwTo at HP
      have HX := Lib.hid hx
      clear hr hr2 hlen hx
      go_wp2_with (go_at_call 131; go_must (refine HP.out.mono ?_; rintro e w2 ⟨rfl, hcw, hb2⟩; have HW2 := Lib.hid hcw; have HB2 := Lib.hid (HBk.out.trans hb2); clear hcw hb2))
      have HW3 : Hid (CwAt w2 base g (l ++ fB (entryAll (L.take (k + 1)))) (bad || fBad (entryAll (L.take (k + 1))))) := Lib.hid (by
        rw [entryAll_snoc L k x HX.out, fB_append, fBad_append]
        have := HW2.out
        simpa [List.append_assoc, Bool.or_assoc] using this)
      clear HW2
      go_roundw
      case rel => exact ⟨k + 1, by omega, by go_num, HW3, HB2⟩
      case measure => simp [intOf]; omega
    · obtain rfl : k = L.length := by omega
      have ht : L.take L.length = L := List.take_length
      have hW := HWk.out
      rw [ht] at hW
      have HWL := Lib.hid hW
      clear hW ht HWk
      go_wp2
      obtain ⟨wo, rfl⟩ : ∃ wo : World, wo = wr := ⟨_, rfl⟩
      go_loopw [] (fun wr => Hid (wr = wo)) (fun _ => 0)
      case atStart => exact Lib.hid rfl
      case round =>
        have he := hrel.out
        subst he
        go_wp2_with (go_at_call 182; refine (cw_more _ _).mono ?_; rintro e wq ⟨rfl, rfl⟩)
        go_end0
        exact ⟨rfl, HWL.out, HBk.out⟩
def entrys (l : List UInt8) (a J : Nat) : List Ent5 := (List.range J).map fun q => rentry l (a + q * 9)
theorem entrys_snoc (l : List UInt8) (a J : Nat) : entrys l a (J + 1) = entrys l a J ++ [rentry l (a + J * 9)] := by unfold entrys; rw [List.range_succ, List.map_append]; rfl
theorem entrys_len (l : List UInt8) (a J : Nat) : (entrys l a J).length = J := by simp [entrys]
/-- What a list that was read leaves. -/
structure LrEnt5 (w : World) (g : Nat) (v : Value) (l : List UInt8) (a pb po : Nat) (cs : Array Value) (T : TypeId) (v' : Value) (J : Nat) (w' : World) : Prop where
  form : CrAt w' g v l (a + J * 9) (decide (l.length < a + J * 9))
  cell : w'.heap[pb]? = some (.cells (cs.setIfInBounds po v') T (0, 0))
  own : w'.ownsRow w.heap.size 155 4 v' J (rowsOf Ent5.cells (entrys l a J))
  keep : Keep (fun b => b = g ∨ b = pb) w w'
set_option maxRecDepth 10000 in
set_option maxHeartbeats 8000000 in
theorem lr_entry {w : World} {g : Nat} {v : Value} {l : List UInt8} (a pb po : Nat) (cs : Array Value) (T : TypeId) (h : CrAt w g v l a (decide (l.length < a))) (hl : l.length ≤ 255) (ha : a ≤ 400) (hb : w.heap[pb]? = some (.cells cs T (0, 0))) (hc : cs[po]? = some (.slice none 0 0)) (hpg : pb ≠ g) (hv : Apart (· = pb) v l) :
    Calls Try.prog 130 #[rV g, .pointer (some ⟨pb, po, none⟩), .func (.func 131) #[] #[]] w fun e w' => ∃ v' J, e = .returned (.tuple #[]) ∧ LrEnt5 w g v l a pb po cs T v' J w' ∧ l.length ≤ a + J * 9 ∧ (J = 0 ∨ a + (J - 1) * 9 < l.length) := by
  have hgl : g < w.heap.size := (Array.getElem?_eq_some_iff.1 h.box).1
  have hpl : pb < w.heap.size := (Array.getElem?_eq_some_iff.1 hb).1
  have c0 : w.cell? ⟨pb, po, none⟩ = some (.slice none 0 0) := (cell_row hb po).trans hc
  have na_more := fun W => na_r ⟨g, 0, none⟩ W "drumlin/codec.more" (by simp)
  have mt_more := fun W => mr_more ⟨g, 0, none⟩ W
  have hst : LrEnt5 w g v l a pb po cs T (.slice none 0 0) 0 w := ⟨by rw [Nat.zero_mul, Nat.add_zero]; exact h, by rw [set_same cs po _ hc]; exact hb, own_nilk _ _ _ _, Keep.refl _ w⟩
  have HST := Lib.hid hst
  have HC := Lib.hid hc
  have HV := Lib.hid hv
  have HVA := Lib.hid (byt_old h.byt)
  clear h hb hst hc hv
  unfold rV
  go_enter Try.func130, Try.ntmps130
  go_wp2
  go_loopw [12] (fun i wr => i = .int .i64 0 ∧ Hid (wr = w)) (fun _ _ => 0)
  case atStart => exact ⟨rfl, Lib.hid rfl⟩
  case round =>
    obtain ⟨rfl, he⟩ := hrel
    have he := he.out
    subst he
    go_wp2
    clear c0
    obtain ⟨wo, rfl⟩ : ∃ wo : World, wo = wr := ⟨_, rfl⟩
    go_loopw [] (fun wr => Hid (∃ v' J, LrEnt5 wo g v l a pb po cs T v' J wr ∧ a + J * 9 ≤ 800 ∧ (J = 0 ∨ a + (J - 1) * 9 < l.length))) (fun wr => (1000 - intOf ((wr.cell? ⟨g, 1, none⟩).getD undef)).toNat)
    case atStart => exact Lib.hid ⟨_, _, HST.out, by omega, .inl rfl⟩
    case round =>
      clear HST
      obtain ⟨v', J, hs, hJ, hJ2⟩ := hrel.out
      obtain ⟨s', c', rfl⟩ := own_slice1 hs.own
      have HAT : Hid (wr.cell? ⟨g, 1, none⟩ = some (.int .i64 ((a + J * 9 : Nat) : Int))) := Lib.hid (cell_row hs.form.box 1)
      have HS := Lib.hid hs
      have HM := Lib.hid (cr_more hs.form (by omega) (by omega))
      have hmb : (!decide (l.length < a + J * 9) && decide (a + J * 9 < l.length)) = decide (a + J * 9 < l.length) := by
        rw [Bool.eq_iff_iff]; simp; omega
      rw [hmb] at HM
      clear hs hmb
      by_cases hlt : a + J * 9 < l.length
      · rw [decide_eq_true hlt] at HM
        go_upto_region 6 with (go_at_call 186; refine HM.out.mono ?_; rintro e w1 ⟨rfl, nq, rfl⟩)
        have hk1 : Keep (fun b => b = g ∨ b = pb) wo (wr.drewN nq) := HS.out.keep.drewN nq
        have hf1 : CrAt (wr.drewN nq) g v l (a + J * 9) (decide (l.length < a + J * 9)) := ⟨HS.out.form.box, byt_keep (F := fun _ => False) HS.out.form.byt ((Keep.refl _ wr).drewN nq) (fun _ _ _ _ _ _ e => e), HS.out.form.apart⟩
        have hc1 : (wr.drewN nq).heap[pb]? = some (.cells (cs.setIfInBounds po (.slice s' J c')) T (0, 0)) := HS.out.cell
        have ho1 : (wr.drewN nq).ownsRow wo.heap.size 155 4 (.slice s' J c') J (rowsOf Ent5.cells (entrys l a J)) := HS.out.own
        revert hk1 hf1 hc1 ho1
        generalize wr.drewN nq = w1
        intro hk1 hf1 hc1 ho1
        have hba : Below w1.heap.size w1 (w1.alloc (.cells #[.int .i64 0, .int .u32 0, .int .u32 0, .int .i64 0] 155 (0, 0))) := (Below.refl _ _).alloc (Nat.le_refl _) _
        have hnew := heap_alloc_last w1 (.cells #[.int .i64 0, .int .u32 0, .int .u32 0, .int .i64 0] 155 (0, 0))
        have hf2 := hf1.below hba
        have hlt1 : g < w1.heap.size := (Array.getElem?_eq_some_iff.1 hf1.box).1
        have hlt2 : pb < w1.heap.size := (Array.getElem?_eq_some_iff.1 hc1).1
        have HP := Lib.hid (pr_entry' hf2 rfl (by omega) (by omega) hnew (by omega) (byt_apart hf1.byt))
        unfold rV at HP
        have HK2 := Lib.hid (hk1.trans (Keep.of_below hba))
        have HC2 := Lib.hid (old_heap hc1 hba)
        have HO2 := Lib.hid (own_below ho1 hba)
        have HLT := Lib.hid (show g < w1.heap.size ∧ pb < w1.heap.size ∧ wo.heap.size ≤ w1.heap.size from ⟨hlt1, hlt2, hk1.size⟩)
        have HOL := Lib.hid (own_block_lt ho1)
        clear hf1 hf2 hc1 ho1 hba hnew hk1 HM HS hrel
        go_upto_region 8 with (go_at_call 131; go_must (refine HP.out.mono ?_; rintro e w2 ⟨rfl, hcp⟩; have HCP := Lib.hid hcp; clear hcp))
        clear HP
        have hK3 : Keep (fun b => b = g ∨ b = pb) wo w2 := HK2.out.trans' HCP.out.keep (fun i hi hf => by rcases hf with e | e; exact .inl e; have := HLT.out.2.2; omega)
        have hC3 : w2.heap[pb]? = some (.cells (cs.setIfInBounds po (.slice s' J c')) T (0, 0)) := HCP.out.keep.heap HC2.out (by have := HLT.out; omega)
        have hO3 : w2.ownsRow wo.heap.size 155 4 (.slice s' J c') J (rowsOf Ent5.cells (entrys l a J)) := own_move HO2.out (fun k hk => HCP.out.keep.block k (own_block_lt HO2.out k hk) (by have h1 := (HO2.out.lt k hk).1; have h2 := HOL.out k hk; omega))
        have hXC := HCP.out.cell
        have hpc : w2.cell? ⟨pb, po, none⟩ = some (.slice s' J c') := (cell_row hC3 po).trans (set_at cs po _ _ HC.out)
        have hpf := free_row hC3 po
        have x0 : w2.cell? ⟨w1.heap.size, 0, none⟩ = some (.int .i64 (rN l ((a + J * 9)) 1 : Int)) := cell_row hXC 0
        have x1 : w2.cell? ⟨w1.heap.size, 1, none⟩ = some (.int .u32 (rN l (((a + J * 9) + 1)) 2 : Int)) := cell_row hXC 1
        have x2 : w2.cell? ⟨w1.heap.size, 2, none⟩ = some (.int .u32 (rN l ((((a + J * 9) + 1) + 2)) 4 : Int)) := cell_row hXC 2
        have x3 : w2.cell? ⟨w1.heap.size, 3, none⟩ = some (.int .i64 (rN l (((((a + J * 9) + 1) + 2) + 4)) 2 : Int)) := cell_row hXC 3
        have hlt2 : pb < w2.heap.size := (Array.getElem?_eq_some_iff.1 hC3).1
        have hltX : w1.heap.size < w2.heap.size := (Array.getElem?_eq_some_iff.1 hXC).1
        have hneq : ∀ k, Value.ownBlock (.slice s' J c') = some k → k ≠ pb ∧ k ≠ w1.heap.size ∧ wo.heap.size ≤ k := fun k hk => by
          have h1 := (HO2.out.lt k hk).1
          have h2 := HOL.out k hk
          exact ⟨by omega, by omega, h1⟩
        have hHS : (fun w' : World => w'.cell? ⟨pb, po, none⟩ = some (.slice s' J c') ∧ w'.frozen? ⟨pb, po, none⟩ = false ∧ w'.cell? ⟨w1.heap.size, 0, none⟩ = some (.int .i64 (rN l ((a + J * 9)) 1 : Int)) ∧ w'.cell? ⟨w1.heap.size, 1, none⟩ = some (.int .u32 (rN l (((a + J * 9) + 1)) 2 : Int)) ∧ w'.cell? ⟨w1.heap.size, 2, none⟩ = some (.int .u32 (rN l ((((a + J * 9) + 1) + 2)) 4 : Int)) ∧ w'.cell? ⟨w1.heap.size, 3, none⟩ = some (.int .i64 (rN l (((((a + J * 9) + 1) + 2) + 4)) 2 : Int))) w2.drew := ⟨hpc, hpf, x0, x1, x2, x3⟩
        have hkp : ∀ w' : World, w'.heap[pb]? = w2.heap[pb]? → w'.heap[w1.heap.size]? = w2.heap[w1.heap.size]? → (fun w' : World => w'.cell? ⟨pb, po, none⟩ = some (.slice s' J c') ∧ w'.frozen? ⟨pb, po, none⟩ = false ∧ w'.cell? ⟨w1.heap.size, 0, none⟩ = some (.int .i64 (rN l ((a + J * 9)) 1 : Int)) ∧ w'.cell? ⟨w1.heap.size, 1, none⟩ = some (.int .u32 (rN l (((a + J * 9) + 1)) 2 : Int)) ∧ w'.cell? ⟨w1.heap.size, 2, none⟩ = some (.int .u32 (rN l ((((a + J * 9) + 1) + 2)) 4 : Int)) ∧ w'.cell? ⟨w1.heap.size, 3, none⟩ = some (.int .i64 (rN l (((((a + J * 9) + 1) + 2) + 4)) 2 : Int))) w' := fun w' e1 e2 => ⟨(cell_row (e1.trans hC3) po).trans (set_at cs po _ _ HC.out), free_row (e1.trans hC3) po, cell_row (e2.trans hXC) 0, cell_row (e2.trans hXC) 1, cell_row (e2.trans hXC) 2, cell_row (e2.trans hXC) 3⟩
        have HKP := Lib.hid hkp
        have hAl : Below w2.heap.size w2 (w2.drew.alloc (.cells (rentry l (a + J * 9)).cells.toArray 155 (0, 0))) := (Below.refl _ w2).drew.alloc (Nat.le_refl _) _
        have HAL := Lib.hid hAl
        have HHS := Lib.hid hHS
        have HK3 := Lib.hid hK3
        have HC3 := Lib.hid hC3
        have HO3 := Lib.hid (hO3 : w2.drew.ownsRow wo.heap.size 155 4 (.slice s' J c') J (rowsOf Ent5.cells (entrys l a J)))
        have HNEQ := Lib.hid hneq
        have HF3 := Lib.hid HCP.out.form
        have hJb : J ≤ 800 := by omega
        have hwoL := HLT.out.2.2
        clear hpc hpf x0 x1 x2 x3 hK3 hC3 hO3 hXC hneq hHS hkp hAl HC2 HO2 HK2 HCP
        refine wp_region_F (S := (fun w' => w'.cell? ⟨pb, po, none⟩ = some (.slice s' J c') ∧ w'.frozen? ⟨pb, po, none⟩ = false ∧ w'.cell? ⟨w1.heap.size, 0, none⟩ = some (.int .i64 (rN l ((a + J * 9)) 1 : Int)) ∧ w'.cell? ⟨w1.heap.size, 1, none⟩ = some (.int .u32 (rN l (((a + J * 9) + 1)) 2 : Int)) ∧ w'.cell? ⟨w1.heap.size, 2, none⟩ = some (.int .u32 (rN l ((((a + J * 9) + 1) + 2)) 4 : Int)) ∧ w'.cell? ⟨w1.heap.size, 3, none⟩ = some (.int .i64 (rN l (((((a + J * 9) + 1) + 2) + 4)) 2 : Int)))) 8 (by kernel_rfl) (by exact HHS.out) (fun hHeld => ?_)
        refine take1F (i := 0) (v := ?_) (a' := ?_) (some 29) #[true, false, false, false, false, false, false, false, false] rfl rfl (by kernel_rfl) (fun _ _ _ h => h) (Or.inl ⟨by rfl, ?_⟩) hHeld ?_ ?_
        rotate_left
        · (intro w hSw; (try dsimp only at hSw); obtain ⟨hpc, hpf, x0, x1, x2, x3⟩ := hSw; go_simp; (try with_reducible rfl))
        rotate_left
        · simp only [Act.put, List.setIfInBounds_toArray, List.set_cons_zero, List.set_cons_succ]
          rfl
        refine take1F (i := 1) (v := ?_) (a' := ?_) (some 30) #[true, true, false, false, false, false, false, false, false] rfl rfl (by kernel_rfl) (fun _ _ _ h => h) (Or.inl ⟨by rfl, ?_⟩) hHeld ?_ ?_
        rotate_left
        · (intro w hSw; (try dsimp only at hSw); obtain ⟨hpc, hpf, x0, x1, x2, x3⟩ := hSw; go_simp; (try with_reducible rfl))
        rotate_left
        · simp only [Act.put, List.setIfInBounds_toArray, List.set_cons_zero, List.set_cons_succ]
          rfl
        refine take1F (i := 2) (v := ?_) (a' := ?_) (some 31) #[true, true, true, false, false, false, false, false, false] rfl rfl (by kernel_rfl) (fun _ _ _ h => h) (Or.inl ⟨by rfl, ?_⟩) hHeld ?_ ?_
        rotate_left
        · (intro w hSw; (try dsimp only at hSw); obtain ⟨hpc, hpf, x0, x1, x2, x3⟩ := hSw; go_simp; (try with_reducible rfl))
        rotate_left
        · simp only [Act.put, List.setIfInBounds_toArray, List.set_cons_zero, List.set_cons_succ]
          rfl
        refine take1F (i := 3) (v := ?_) (a' := ?_) (some 32) #[true, true, true, true, false, false, false, false, false] rfl rfl (by kernel_rfl) (fun _ _ _ h => h) (Or.inl ⟨by rfl, ?_⟩) hHeld ?_ ?_
        rotate_left
        · (intro w hSw; (try dsimp only at hSw); obtain ⟨hpc, hpf, x0, x1, x2, x3⟩ := hSw; go_simp; (try with_reducible rfl))
        rotate_left
        · simp only [Act.put, List.setIfInBounds_toArray, List.set_cons_zero, List.set_cons_succ]
          rfl
        refine take1F (i := 4) (v := ?_) (a' := ?_) (some 33) #[true, true, true, true, true, false, false, false, false] rfl rfl (by kernel_rfl) (fun _ _ _ h => h) (Or.inl ⟨by rfl, ?_⟩) hHeld ?_ ?_
        rotate_left
        · (intro w hSw; (try dsimp only at hSw); obtain ⟨hpc, hpf, x0, x1, x2, x3⟩ := hSw; go_simp; (try with_reducible rfl))
        rotate_left
        · simp only [Act.put, List.setIfInBounds_toArray, List.set_cons_zero, List.set_cons_succ]
          rfl
        refine loud1F (i := 5) (some 34) #[true, true, true, true, true, true, false, false, false] rfl rfl (by kernel_rfl) (fun K hK => ?_)
        go_simp
        skip
        refine hK.out _ _ (by first | exact HKP.out _ (HAL.out.block pb hlt2) (HAL.out.block _ hltX) | exact HKP.out _ ((HG4.out.block pb (Nat.lt_of_lt_of_le hlt2 HAL.out.size) (fun e => (HNEQ.out pb e.symm).1 rfl)).trans (HAL.out.block pb hlt2)) ((HG4.out.block _ (Nat.lt_of_lt_of_le hltX HAL.out.size) (fun e => (HNEQ.out _ e.symm).2.1 rfl)).trans (HAL.out.block _ hltX))) (fun hHeld' => ?_)
        clear hK K hHeld
        have hHeld := hHeld'
        clear hHeld'
        try simp only [Act.put, List.setIfInBounds_toArray, List.set_cons_zero, List.set_cons_succ]
        refine loud1F (i := 6) (some 35) #[true, true, true, true, true, true, true, false, false] rfl rfl (by kernel_rfl) (fun K hK => ?_)
        (refine step_append_rd (by rfl) (.tmp 32) (.tmp 34) 63 (by rfl) wo.heap.size 155 (.agg #[.int .i64 0, .int .u32 0, .int .u32 0, .int .i64 0]) 4 24 Try.underlying63 infoEntry3 rfl (by decide) _ _ _ (by rfl) (HO3.out.alloc _) _ 1 (rentry l (a + J * 9)).cells (by rfl) (rd_row (heap_alloc_last w2.drew (.cells (rentry l (a + J * 9)).cells.toArray 155 (0, 0))) rfl 1) (Ent5.cells_one _) (by omega) (by decide) (by simp; omega) ?_; intro v4 w4 hown4 hbel4 hg4; obtain ⟨s4, c4, rfl⟩ := own_slice1 hown4; have HO4 := Lib.hid hown4; have HB4 := Lib.hid hbel4; have HG4 := Lib.hid hg4; clear hown4 hbel4 hg4)
        refine hK.out _ _ (by first | exact HKP.out _ (HAL.out.block pb hlt2) (HAL.out.block _ hltX) | exact HKP.out _ ((HG4.out.block pb (Nat.lt_of_lt_of_le hlt2 HAL.out.size) (fun e => (HNEQ.out pb e.symm).1 rfl)).trans (HAL.out.block pb hlt2)) ((HG4.out.block _ (Nat.lt_of_lt_of_le hltX HAL.out.size) (fun e => (HNEQ.out _ e.symm).2.1 rfl)).trans (HAL.out.block _ hltX))) (fun hHeld' => ?_)
        clear hK K hHeld
        have hHeld := hHeld'
        clear hHeld'
        try simp only [Act.put, List.setIfInBounds_toArray, List.set_cons_zero, List.set_cons_succ]
        refine take1F (i := 7) (v := ?_) (a' := ?_) (some 36) #[true, true, true, true, true, true, true, true, false] rfl rfl (by kernel_rfl) (fun _ _ _ h => h) (Or.inl ⟨by rfl, ?_⟩) hHeld ?_ ?_
        rotate_left
        · (intro w hSw; (try dsimp only at hSw); obtain ⟨hpc, hpf, x0, x1, x2, x3⟩ := hSw; go_simp; (try with_reducible rfl))
        rotate_left
        · simp only [Act.put, List.setIfInBounds_toArray, List.set_cons_zero, List.set_cons_succ]
          rfl
        refine last1F (none) #[true, true, true, true, true, true, true, true, true] rfl rfl (by kernel_rfl) (fun K hK => ?_)
        (obtain ⟨hpc, hpf, x0, x1, x2, x3⟩ := hHeld; go_simp)
        refine hK.out _ _ ?_
        clear hK K
        try simp only [Act.put, List.setIfInBounds_toArray, List.set_cons_zero, List.set_cons_succ]
        refine wpAnyF_done (by kernel_rfl) ?_ _
        have hb24 : Below wo.heap.size w2 w4 := (HAL.out.mono (Nat.le_of_lt (Nat.lt_of_le_of_lt hwoL hltX))).trans HB4.out
        have hkF : Keep (fun b => b = pb ∨ wo.heap.size ≤ b) w2 (w4.setCell ⟨pb, po, none⟩ (.slice s4 (J + 1) c4)) := (keepF hb24).setCell pb po _ (.inl rfl)
        have heq : a + (J + 1) * 9 = a + J * 9 + 9 := by omega
        have hC4 : w4.heap[pb]? = some (.cells (cs.setIfInBounds po (.slice s' J c')) T (0, 0)) := (hb24.block pb hpl).trans HC3.out
        have hown := HO4.out
        rw [← rowsOf_snoc, ← entrys_snoc] at hown
        have hnew : LrEnt5 wo g v l a pb po cs T (.slice s4 (J + 1) c4) (J + 1) (w4.setCell ⟨pb, po, none⟩ (.slice s4 (J + 1) c4)) := by
          refine ⟨?_, ?_, ?_, ?_⟩
          · rw [heq]
            exact ⟨hkF.heap HF3.out.box (by omega), byt_keep HF3.out.byt hkF (fun hne b o n c e f => by rcases f with f | f; exact HV.out hne b o n c e f; exact HVA.out hne b o n c e f), HF3.out.apart⟩
          · have := head_set hC4 po (.slice s4 (J + 1) c4)
            rw [set_set2] at this
            exact this
          · exact own_move hown (fun k hk => Below.heap_setCell _ ⟨pb, po, none⟩ _ k (by have := (hown.lt k hk).1; show k ≠ pb; omega))
          · exact HK3.out.trans' hkF (fun i hi hf => by rcases hf with e | e; exact .inr e; omega)
        have hat1 : (w4.setCell ⟨pb, po, none⟩ (.slice s4 (J + 1) c4)).cell? ⟨g, 1, none⟩ = some (.int .i64 ((a + (J + 1) * 9 : Nat) : Int)) := cell_row hnew.form.box 1
        have hat0 : wr.cell? ⟨g, 1, none⟩ = some (.int .i64 ((a + J * 9 : Nat) : Int)) := HAT.out
        have HNEW := Lib.hid hnew
        have HAT1 := Lib.hid hat1
        have HAT0 := Lib.hid hat0
        clear hb24 hkF heq hC4 hown hnew hat1 hat0 HO4 HB4 HG4 HC3 HO3 HK3 HF3 HHS HKP HAL
        revert HNEW HAT1
        generalize w4.setCell ⟨pb, po, none⟩ (.slice s4 (J + 1) c4) = w5
        intro HNEW HAT1
        go_wp2
        go_roundw
        case rel => exact Lib.hid ⟨_, J + 1, HNEW.out, by omega, .inr (by rw [Nat.add_sub_cancel]; exact hlt)⟩
        case measure => rw [HAT1.out, HAT0.out]; simp [intOf]; omega
      · rw [decide_eq_false hlt] at HM
        have hlt3 : l.length ≤ a + J * 9 := by omega
        go_wp2_with (go_at_call 186; refine HM.out.mono ?_; rintro e w1 ⟨rfl, nq, rfl⟩)
        go_end0
        exact ⟨_, J, rfl, ⟨⟨HS.out.form.box, byt_keep (F := fun _ => False) HS.out.form.byt ((Keep.refl _ wr).drewN nq) (fun _ _ _ _ _ _ e => e), HS.out.form.apart⟩, HS.out.cell, HS.out.own, HS.out.keep.drewN nq⟩, hlt3, hJ2⟩
end Go.Proofs.Ytcpfafmkhegckaa
/-
  Codec: lists of entrys: may they be, as sectors, and back.
-/
namespace Go.Proofs.Ytcpfafmkhegckaa
open Go.RowKit
set_option linter.unusedVariables false
set_option linter.unusedSimpArgs false
set_option linter.unnecessarySimpa false
def entryMay (x : Ent5) : Bool := decide (1 ≤ x.kind ∧ x.kind ≤ 6)
set_option maxRecDepth 10000 in
set_option maxHeartbeats 4000000 in
theorem entryMay_any (x : Ent5) (w : World) : Calls Try.prog 133 #[.agg x.cells.toArray] w fun e w' => e = .returned (.bool (entryMay x)) ∧ Below w.heap.size w w' := by
  obtain ⟨y0, y1, y2, y3⟩ := x
  have hc : (Ent5.mk y0 y1 y2 y3).cells.toArray = #[.int .i64 y0, .int .u32 (y1 : Int), .int .u32 (y2 : Int), .int .i64 y3] := rfl
  rw [hc]
  have HA := fun w' => Lib.hid (among_any y0 1 6 w')
  obtain ⟨m, hm⟩ : ∃ m, entryMay ⟨y0, y1, y2, y3⟩ = m := ⟨_, rfl⟩
  have hm' : decide (1 ≤ y0 ∧ y0 ≤ 6) = m := hm
  rw [hm'] at HA
  rw [hm]
  have HB := Lib.hid (show Below w.heap.size w (w.alloc (.cells #[.int .i64 y0, .int .u32 (y1 : Int), .int .u32 (y2 : Int), .int .i64 y3] 155 (0, 0))) from (Below.refl _ _).alloc (Nat.le_refl _) _)
  clear hm hm' hc
  go_enter Try.func133, Try.ntmps133
  go_wp2_with (go_at_call 119; refine (HA _).out.mono ?_; rintro e w' ⟨rfl, rfl⟩)
  go_ret
  exact ⟨rfl, HB.out⟩
/-- May all of them be, and are they few enough? -/
def entrysMay (L : List Ent5) : Bool := L.all entryMay && decide (L.length ≤ 8)
set_option maxRecDepth 10000 in
set_option maxHeartbeats 8000000 in
theorem entryEach_any (L : List Ent5) (A : Option Addr) (c p1 p2 : Nat) (w : World) (hf : w.cell? ⟨p1, 0, none⟩ = some (.func (.func 133) #[] #[])) (hm : w.cell? ⟨p2, 0, none⟩ = some (.int .i64 8)) (hR : ReadAt w A Ent5.cells 4 L) (hL : L.length ≤ 140737488355328) :
    Calls Try.prog 157 #[.slice A L.length c, .pointer (some ⟨p1, 0, none⟩), .pointer (some ⟨p2, 0, none⟩)] w fun e w' => e = .returned (.bool (entrysMay L)) ∧ Below w.heap.size w w' := by
  have hp1 := World.block_lt_of_cell? w _ hf
  have hp2 := World.block_lt_of_cell? w _ hm
  dsimp only at hp1 hp2
  have HF := Lib.hid hf
  have HM := Lib.hid hm
  have HR := Lib.hid hR
  have HMA := fun x W => Lib.hid (entryMay_any x W)
  clear hf hm hR
  go_enter Try.func157, Try.ntmps157
  go_wp2
  go_loopw [9] (fun i wr => ∃ k : Nat, k ≤ L.length ∧ i = .int .i64 (k : Int) ∧ Hid ((L.take k).all entryMay = true) ∧ Hid (Below w.heap.size w wr)) (fun i _ => (L.length - intOf i).toNat)
  case atStart => exact ⟨0, by omega, rfl, Lib.hid rfl, Lib.hid (Below.refl _ _)⟩
  case round =>
    obtain ⟨k, hk, rfl, HK, HB⟩ := hrel
    have hf := (HB.out.cell (p := ⟨p1, 0, none⟩) hp1).trans HF.out
    have hm := (HB.out.cell (p := ⟨p2, 0, none⟩) hp2).trans HM.out
    by_cases hlt : k < L.length
    · obtain ⟨x, hx⟩ : ∃ x, L[k]? = some x := ⟨_, List.getElem?_eq_getElem hlt⟩
      obtain ⟨b, o, rfl, hr⟩ := rows_at Ent5.cells_len HR.out hx
      have hbl : b < w.heap.size := World.block_lt_of_cell? w ⟨b, o + k * 4 + 0, none⟩ (hr 0 _ rfl)
      have hr2 : wr.rangeAt b (o + k * 4) x.cells := fun j u hu => (HB.out.cell (p := ⟨b, o + k * 4 + j, none⟩) hbl).trans (hr j u hu)
      have HX := Lib.hid hx
      obtain ⟨y0, y1, y2, y3⟩ := x
      have e0 : wr.cell? ⟨b, o + k * 4, none⟩ = some (.int .i64 y0) := hr2 0 _ rfl
      have e1 : wr.cell? ⟨b, o + k * 4 + 1, none⟩ = some (.int .u32 (y1 : Int)) := hr2 1 _ rfl
      have e2 : wr.cell? ⟨b, o + k * 4 + 2, none⟩ = some (.int .u32 (y2 : Int)) := hr2 2 _ rfl
      have e3 : wr.cell? ⟨b, o + k * 4 + 3, none⟩ = some (.int .i64 y3) := hr2 3 _ rfl
      have hmx := fun W => (HMA ⟨y0, y1, y2, y3⟩ W)
      have hcc : (Ent5.mk y0 y1 y2 y3).cells.toArray = #[.int .i64 y0, .int .u32 (y1 : Int), .int .u32 (y2 : Int), .int .i64 y3] := rfl
      obtain ⟨q, hq⟩ : ∃ q, entryMay ⟨y0, y1, y2, y3⟩ = q := ⟨_, rfl⟩
      simp only [hcc, hq] at hmx
      have HQ := Lib.hid hq
      have hba : Below wr.heap.size wr (wr.alloc (.cells #[.int .i64 y0, .int .u32 (y1 : Int), .int .u32 (y2 : Int), .int .i64 y3] 155 (0, 0))) := (Below.refl _ _).alloc (Nat.le_refl _) _
      have HBA := Lib.hid (HB.out.trans (hba.mono HB.out.size))
      have hf2 := (hba.cell (p := ⟨p1, 0, none⟩) (Nat.lt_of_lt_of_le hp1 HB.out.size)).trans hf
      have hm2 := (hba.cell (p := ⟨p2, 0, none⟩) (Nat.lt_of_lt_of_le hp2 HB.out.size)).trans hm
      clear hr hr2 hx hcc hq hba
      cases q with
      | true =>
        go_wp2_with (go_at_call 133; go_must (refine (hmx _).out.mono ?_; rintro e w2 ⟨rfl, hb2⟩; have HB2 := Lib.hid (HBA.out.trans (hb2.mono HBA.out.size)); clear hb2))
        have HK2 : Hid ((L.take (k + 1)).all entryMay = true) := Lib.hid (by
          obtain ⟨hk3, e3⟩ := List.getElem?_eq_some_iff.1 HX.out
          rw [List.take_succ_eq_append_getElem hk3, List.all_append, HK.out, e3]
          simp [HQ.out])
        go_roundw
        case rel => exact ⟨k + 1, by omega, by go_num, HK2, HB2⟩
        case measure => simp [intOf]; omega
      | false =>
        have hno : entrysMay L = false := by
          unfold entrysMay
          have : L.all entryMay = false := by rw [List.all_eq_false]; exact ⟨_, List.mem_of_getElem? HX.out, by rw [HQ.out]; simp⟩
          rw [this]; rfl
        have HNO := Lib.hid hno
        clear hno
        go_wp2_with (go_at_call 133; go_must (refine (hmx _).out.mono ?_; rintro e w2 ⟨rfl, hb2⟩; have HB2 := Lib.hid (HBA.out.trans (hb2.mono HBA.out.size)); clear hb2))
        go_ret
        exact ⟨by rw [HNO.out]; rfl, HB2.out⟩
    · obtain rfl : k = L.length := by omega
      have hall := HK.out
      rw [List.take_length] at hall
      have hyes : entrysMay L = decide ((L.length : Int) ≤ 8) := by unfold entrysMay; rw [hall, Bool.true_and, decide_eq_decide]; omega
      have HYES := Lib.hid hyes
      clear hall hyes
      go_wp2
      go_ret
      exact ⟨by rw [HYES.out]; rfl, HB.out⟩
end Go.Proofs.Ytcpfafmkhegckaa
/-
  Codec: the form that writes: what a call keeps. Printed by wip/tools/mkcwk.py.
-/
namespace Go.Proofs.Ytcpfafmkhegckaa
open Go.RowKit
attribute [local go_sem] maxI_two minI_two
set_option linter.unusedVariables false
set_option linter.unusedSimpArgs false
set_option linter.unnecessarySimpa false
/-- A block that is neither the writer's nor its slice's is kept. -/
def WKeep (w : World) (g : Nat) (w' : World) : Prop := ∀ q sv, q < w.heap.size → q ≠ g → w.cell? ⟨g, 0, none⟩ = some sv → sv.ownBlock ≠ some q → w'.heap[q]? = w.heap[q]?
def CwTk (w : World) (base g : Nat) (l : List UInt8) (bad : Bool) (e : Ending) (w' : World) : Prop := (e = .returned (.tuple #[]) ∧ CwAt w' base g l bad ∧ Below base w w') ∧ WKeep w g w'
section
variable {w : World} {base g : Nat} {l : List UInt8} {bad : Bool}
set_option maxRecDepth 10000 in
set_option maxHeartbeats 4000000 in
theorem ck_wide (k x pb po : Nat) (h : CwAt w base g l bad) (hk : 1 ≤ k ∧ k ≤ 8) (hx : x < 2 ^ 64) (hc : w.cell? ⟨pb, po, none⟩ = some (.int .u64 (x : Int))) (hl : l.length ≤ 100000) (hbs : base ≤ w.heap.size) :
    Calls Try.prog 183 #[.pointer (some ⟨g, 0, none⟩), .int .i64 (k : Int), .pointer (some ⟨pb, po, none⟩)] w (CwTk w base g (l ++ wB k x) (bad || !fitB k x)) := by
  obtain ⟨v, hg, ho, hb, hne⟩ := h
  obtain ⟨sv, cv, rfl⟩ := own_slice1 ho
  have hgl : g < w.heap.size := (Array.getElem?_eq_some_iff.1 hg).1
  have hpl := World.block_lt_of_cell? w _ hc
  dsimp only at hpl
  have HG := Lib.hid hg
  have HO := Lib.hid ho
  have HC := Lib.hid hc
  have HNE := Lib.hid hne
  have hk0 : (0 : Int) ≤ (k : Int) := by omega
  have HWO : Hid (∀ u ∈ bvs (wB k x), u.oneCell' = true) := Lib.hid (bvs_oneCell _)
  have HWL := Lib.hid (wB_len k x)
  clear hg ho hc hne
  unfold CwTk
  cases hf : fitB k x with
  | true =>
    have HF := Lib.hid hf
    clear hf
    go_enter Try.func183, Try.ntmps183
    go_wp2_with (first
      | (refine wpList_make_rd _ rfl _ _ 118 rfl w.heap.size 5 (.int .u8 0) 1 1 Try.underlying118 infoU8 (k : Int) (k : Int) k rfl rfl rfl rfl (by omega) (by unfold maxLen; omega) (Nat.le_refl _) ?_; intro w1 how hb1; rw [made_bytes] at how; have hh1 := own_full how; have c1 : w1.cell? ⟨pb, po, none⟩ = some (.int .u64 (x : Int)) := (hb1.cell (p := ⟨pb, po, none⟩) hpl).trans HC.out; have HP := Lib.hid (cw_put hk hx hh1); unfold PutTo at HP; rw [HF.out] at HP; rw [if_pos rfl] at HP; have HH1 := Lib.hid hh1; have HB1 := Lib.hid hb1; clear how hb1 hh1)
      | (go_at_call 107; (with_reducible refine HP.out.mono ?_); rintro e w2 ⟨rfl, hw2⟩; have HW2 := Lib.hid hw2; have hh2 : w2.heap[w.heap.size]? = some (.cells (bvs (wB k x)).toArray 5 (0, 0)) := (by rw [HW2.out]; exact setRow_heap _ _ _ _ _ _ HH1.out); have hb2 : Below w.heap.size w w2 := (by rw [HW2.out]; exact below_setRow _ HB1.out (Nat.le_refl _)); have hg2 := old_heap HG.out hb2; have ho2 := own_below HO.out hb2; have HRD := Lib.hid (rd_bytes hh2 HWL.out k); have HO2 := Lib.hid ho2; have HG2 := Lib.hid hg2; have HB2 := Lib.hid hb2; have g0 : w2.cell? ⟨g, 0, none⟩ = some (.slice sv l.length cv) := cell_row hg2 0; have g1 : w2.cell? ⟨g, 1, none⟩ = some (.bool bad) := cell_row hg2 1; have f0 := free_row hg2 0; have hsz2 := hb2.size; clear hw2 hh2 hb2 hg2 ho2 c1)
      | (at_builtin; refine wpList_append_rd_at _ rfl _ _ 118 rfl base 5 (.int .u8 0) 1 1 Try.underlying118 infoU8 rfl (by decide) _ _ _ rfl HO2.out _ k (bvs (wB k x)) rfl HRD.out HWO.out ?c2 (by decide) ?c3 ?_; (case c2 => omega); (case c3 => omega); intro v3 w3 ho3 hb3 hg3 hat3; obtain ⟨s3, c3, rfl⟩ := own_slice1 ho3; have hh3 := (hg3.block g (Nat.lt_of_lt_of_le hgl hsz2) (fun e => HNE.out g e.symm rfl)).trans HG2.out; have q0 : w3.cell? ⟨g, 0, none⟩ = some (.slice sv l.length cv) := cell_row hh3 0; have e0 := free_row hh3 0; have HH3 := Lib.hid hh3; have HO3 := Lib.hid ho3; have HB3 := Lib.hid hb3; have HAT := Lib.hid hat3; have HG3 := Lib.hid hg3; clear hh3 ho3 hb3 hg3 hat3 g0 g1 f0))
    go_end0
    refine ⟨⟨rfl, ⟨_, by have := head_set HH3.out 0 (.slice s3 (l.length + k) c3); simpa using this, ?_, hb, ?_⟩, ((HB2.out.mono hbs).trans HB3.out).setCell (p := ⟨g, 0, none⟩) hb _⟩, ?_⟩
    · have hne3 : ∀ j, Value.ownBlock (.slice s3 (l.length + k) c3) = some j → j ≠ g := fun j hj => by
        rcases HAT.out with e | e
        · exact HNE.out j (by rw [← hj, e]; rfl)
        · rw [e] at hj; cases hj; omega
      have := own_move HO3.out (w' := w3.setCell ⟨g, 0, none⟩ (.slice s3 (l.length + k) c3)) (fun j hj => Below.heap_setCell _ _ _ _ (hne3 j hj))
      rw [List.length_append, HWL.out]
      simpa [bvs] using this
    · intro j hj
      rcases HAT.out with e | e
      · exact HNE.out j (by rw [← hj, e]; rfl)
      · rw [e] at hj; cases hj; omega
    · intro q sv' hq hqg hsv hown
      have e1 : sv' = .slice sv l.length cv := by
        have := cell_row HG.out 0
        rw [this] at hsv
        exact (Option.some.inj hsv).symm
      have k1 := HG3.out.block q (Nat.lt_of_lt_of_le hq HB2.out.size) (fun e => hown (by rw [e1]; exact e.symm))
      exact (Below.heap_setCell _ _ _ _ hqg).trans (k1.trans (HB2.out.block q hq))
  | false =>
    have HF := Lib.hid hf
    clear hf
    go_enter Try.func183, Try.ntmps183
    go_wp2_with (first
      | (refine wpList_make_rd _ rfl _ _ 118 rfl w.heap.size 5 (.int .u8 0) 1 1 Try.underlying118 infoU8 (k : Int) (k : Int) k rfl rfl rfl rfl (by omega) (by unfold maxLen; omega) (Nat.le_refl _) ?_; intro w1 how hb1; rw [made_bytes] at how; have hh1 := own_full how; have c1 : w1.cell? ⟨pb, po, none⟩ = some (.int .u64 (x : Int)) := (hb1.cell (p := ⟨pb, po, none⟩) hpl).trans HC.out; have HP := Lib.hid (cw_put hk hx hh1); unfold PutTo at HP; rw [HF.out] at HP; rw [if_neg (by simp)] at HP; have HH1 := Lib.hid hh1; have HB1 := Lib.hid hb1; clear how hb1 hh1)
      | (go_at_call 107; (with_reducible refine HP.out.mono ?_); rintro e w2 ⟨rfl, hw2⟩; have HW2 := Lib.hid hw2; have hh2 : w2.heap[w.heap.size]? = some (.cells (bvs (wB k x)).toArray 5 (0, 0)) := (by rw [HW2.out]; exact setRow_heap _ _ _ _ _ _ HH1.out); have hb2 : Below w.heap.size w w2 := (by rw [HW2.out]; exact below_setRow _ HB1.out (Nat.le_refl _)); have hg2 := old_heap HG.out hb2; have ho2 := own_move (w' := w2.setCell ⟨g, 1, none⟩ (.bool true)) (own_below HO.out hb2) (fun j hj => Below.heap_setCell _ _ _ _ (HNE.out j hj)); have hh2' := (Below.heap_setCell w2 ⟨g, 1, none⟩ (.bool true) w.heap.size (by show w.heap.size ≠ g; omega)).trans hh2; have HRD := Lib.hid (rd_bytes hh2' HWL.out k); have HO2 := Lib.hid ho2; have HG2 : Hid ((w2.setCell ⟨g, 1, none⟩ (.bool true)).heap[g]? = some (.cells #[.slice sv l.length cv, .bool true] 198 (0, 0))) := Lib.hid (by have := head_set hg2 1 (.bool true); simpa using this); have HBZ := Lib.hid hb2; have HB2 := Lib.hid (hb2.mono hbs); have g0 : w2.cell? ⟨g, 0, none⟩ = some (.slice sv l.length cv) := cell_row hg2 0; have g1 : w2.cell? ⟨g, 1, none⟩ = some (.bool bad) := cell_row hg2 1; have f0 := free_row hg2 0; have f1 := free_row hg2 1; have hsz2 := hb2.size; have hsz2' : (w2.setCell ⟨g, 1, none⟩ (.bool true)).heap.size = w2.heap.size := (by simp [World.setCell]); clear hw2 hh2 hh2' hb2 hg2 ho2 c1)
      | (at_builtin; refine wpList_append_rd_at _ rfl _ _ 118 rfl base 5 (.int .u8 0) 1 1 Try.underlying118 infoU8 rfl (by decide) _ _ _ rfl HO2.out _ k (bvs (wB k x)) rfl HRD.out HWO.out ?c2 (by decide) ?c3 ?_; (case c2 => omega); (case c3 => omega); intro v3 w3 ho3 hb3 hg3 hat3; obtain ⟨s3, c3, rfl⟩ := own_slice1 ho3; have hh3 := (hg3.block g (by rw [hsz2']; exact Nat.lt_of_lt_of_le hgl hsz2) (fun e => HNE.out g e.symm rfl)).trans HG2.out; have q0 : w3.cell? ⟨g, 0, none⟩ = some (.slice sv l.length cv) := cell_row hh3 0; have e0 := free_row hh3 0; have HH3 := Lib.hid hh3; have HO3 := Lib.hid ho3; have HB3 := Lib.hid hb3; have HAT := Lib.hid hat3; have HG3 := Lib.hid hg3; clear hh3 ho3 hb3 hg3 hat3 g0 g1 f0 f1))
    go_end0
    refine ⟨⟨rfl, ⟨_, by have := head_set HH3.out 0 (.slice s3 (l.length + k) c3); simpa using this, ?_, hb, ?_⟩, ((HB2.out.setCell (p := ⟨g, 1, none⟩) hb (.bool true)).trans HB3.out).setCell (p := ⟨g, 0, none⟩) hb _⟩, ?_⟩
    · have hne3 : ∀ j, Value.ownBlock (.slice s3 (l.length + k) c3) = some j → j ≠ g := fun j hj => by
        rcases HAT.out with e | e
        · exact HNE.out j (by rw [← hj, e]; rfl)
        · rw [e] at hj; cases hj; rw [hsz2']; omega
      have := own_move HO3.out (w' := w3.setCell ⟨g, 0, none⟩ (.slice s3 (l.length + k) c3)) (fun j hj => Below.heap_setCell _ _ _ _ (hne3 j hj))
      rw [List.length_append, HWL.out]
      simpa [bvs] using this
    · intro j hj
      rcases HAT.out with e | e
      · exact HNE.out j (by rw [← hj, e]; rfl)
      · rw [e] at hj; cases hj; rw [hsz2']; omega
    · intro q sv' hq hqg hsv hown
      have e1 : sv' = .slice sv l.length cv := by
        have := cell_row HG.out 0
        rw [this] at hsv
        exact (Option.some.inj hsv).symm
      have k1 := HG3.out.block q (by rw [hsz2']; exact Nat.lt_of_lt_of_le hq HBZ.out.size) (fun e => hown (by rw [e1]; exact e.symm))
      exact (Below.heap_setCell _ _ _ _ hqg).trans (k1.trans ((Below.heap_setCell _ _ _ _ hqg).trans (HBZ.out.block q hq)))
set_option maxRecDepth 10000 in
set_option maxHeartbeats 4000000 in
theorem ck_int (k : Nat) (n : Int) (pb po : Nat) (h : CwAt w base g l bad) (hk : 1 ≤ k ∧ k ≤ 8) (hn : -9223372036854775808 ≤ n ∧ n ≤ 9223372036854775807) (hc : w.cell? ⟨pb, po, none⟩ = some (.int .i64 n)) (hl : l.length ≤ 100000) (hbs : base ≤ w.heap.size) :
    Calls Try.prog 181 #[.pointer (some ⟨g, 0, none⟩), .int .i64 (k : Int), .pointer (some ⟨pb, po, none⟩)] w (CwTk w base g (l ++ wB k n.toNat) ((bad || decide (n < 0)) || !fitB k n.toNat)) := by
  obtain ⟨x, hxn⟩ : ∃ x : Nat, n.toNat = x := ⟨_, rfl⟩
  rw [hxn]
  have hba := (Below.refl w.heap.size w).alloc (Nat.le_refl _) (.cells #[.int .u64 (x : Int)] 52)
  have hnew := cell_row (new_heap w (.cells #[.int .u64 (x : Int)] 52 (0, 0))) 0
  obtain ⟨v, hg, ho, hb, hne⟩ := h
  have hpl := World.block_lt_of_cell? w _ hc
  have hgl : g < w.heap.size := (Array.getElem?_eq_some_iff.1 hg).1
  have hg1 := old_heap hg hba
  have hc1 := (hba.cell (p := ⟨pb, po, none⟩) hpl).trans hc
  have hc2 : (w.alloc (.cells #[.int .u64 (x : Int)] 52)).cell? ⟨pb, po, none⟩ = some (.int .i64 n) := hc1
  have hg0 : (w.alloc (.cells #[.int .u64 (x : Int)] 52)).cell? ⟨g, 1, none⟩ = some (.bool bad) := cell_row hg1 1
  have hf1 := free_row hg1 1
  obtain ⟨b2, hb2⟩ : ∃ b2, (bad || decide (n < 0)) = b2 := ⟨_, rfl⟩
  have hsz : (w.setCell ⟨g, 1, none⟩ (.bool b2)).heap.size = w.heap.size := by simp [World.setCell]
  have hcw0 : CwAt (w.setCell ⟨g, 1, none⟩ (.bool b2)) base g l b2 :=
    ⟨v, by have := head_set hg 1 (.bool b2); simpa using this, own_move ho (fun j hj => Below.heap_setCell _ _ _ _ (hne j hj)), hb, hne⟩
  have hba2 := (Below.refl (w.setCell ⟨g, 1, none⟩ (.bool b2)).heap.size (w.setCell ⟨g, 1, none⟩ (.bool b2))).alloc (Nat.le_refl _) (.cells #[.int .u64 (x : Int)] 52)
  have hcw := hcw0.below hba2
  have hbw := ((Below.refl base w).setCell (p := ⟨g, 1, none⟩) hb (.bool b2)).trans (hba2.mono (by omega))
  have hx64 : x < 2 ^ 64 := by omega
  have hcell := cell_row (new_heap (w.setCell ⟨g, 1, none⟩ (.bool b2)) (.cells #[.int .u64 (x : Int)] 52 (0, 0))) 0
  have hWK : ∀ w2, WKeep ((w.setCell ⟨g, 1, none⟩ (.bool b2)).alloc (.cells #[.int .u64 (x : Int)] 52)) g w2 → WKeep w g w2 := fun w2 h q sv hq hqg hsv hown => by
    have hk := hba2.block q (by rw [hsz]; exact hq)
    have hk2 := Below.heap_setCell w ⟨g, 1, none⟩ (.bool b2) q hqg
    have hsv2 : sv = v := by
      have := cell_row hg 0
      rw [this] at hsv
      exact (Option.some.inj hsv).symm
    have hc0 := cell_row (old_heap (head_set hg 1 (.bool b2)) hba2) 0
    have := h q sv (Nat.lt_of_lt_of_le (by rw [hsz]; exact hq) hba2.size) hqg (by rw [hsv2]; simpa using hc0) hown
    exact this.trans (hk.trans hk2)
  have HWK := Lib.hid hWK
  clear hWK
  have HW := Lib.hid (ck_wide k x _ 0 hcw hk hx64 hcell hl (by rw [World.size_alloc]; omega))
  rw [hsz] at HW
  unfold CwTk at HW ⊢
  rw [hb2]
  have HBW := Lib.hid hbw
  have hmx : mxI n 0 = (x : Int) := by rw [← hxn]; unfold mxI; split <;> omega
  have HMX := Lib.hid hmx
  have hxb : x ≤ 9223372036854775807 := by omega
  have HB2 := Lib.hid hb2
  clear hxn hg ho hcw hcw0 hba2 hbw hcell hmx hb2 hc1 hg1 hnew hx64 hba hsz
  have hwr : IntKind.u64.wrap (mxI n 0) = (x : Int) := by rw [HMX.out]; unfold IntKind.wrap; simp [IntKind.signed, IntKind.bits]; omega
  by_cases hn0 : n < 0
  · have ht : b2 = true := by rw [← HB2.out]; simp [hn0]
    subst ht
    cases bad
    all_goals
      clear HB2
      go_enter Try.func181, Try.ntmps181
      go_wp2_with (first
        | (go_at_call 183; go_must (refine HW.out.mono ?_; rintro e w2 ⟨⟨rfl, hc2, hb2⟩, hk2⟩; have HC2 := Lib.hid hc2; have HB2 := Lib.hid hb2; have HK2 := Lib.hid hk2; clear hc2 hb2 hk2)))
      go_end0
      exact ⟨⟨rfl, HC2.out, HBW.out.trans HB2.out⟩, HWK.out _ HK2.out⟩
  · have ht : b2 = bad := by rw [← HB2.out]; simp [hn0]
    subst ht
    cases b2
    all_goals
      clear HB2
      go_enter Try.func181, Try.ntmps181
      go_wp2_with (first
        | (go_at_call 183; go_must (refine HW.out.mono ?_; rintro e w2 ⟨⟨rfl, hc2, hb2⟩, hk2⟩; have HC2 := Lib.hid hc2; have HB2 := Lib.hid hb2; have HK2 := Lib.hid hk2; clear hc2 hb2 hk2)))
      go_end0
      exact ⟨⟨rfl, HC2.out, HBW.out.trans HB2.out⟩, HWK.out _ HK2.out⟩
end
end Go.Proofs.Ytcpfafmkhegckaa
/-
  Codec: Summary's flag, both modes.
-/
namespace Go.Proofs.Ytcpfafmkhegckaa
open Go.RowKit
set_option linter.unusedVariables false
set_option linter.unusedSimpArgs false
set_option linter.unnecessarySimpa false
def flagN (c : Bool) : Int := if c then 1 else 0
theorem setCell_keep {w : World} {b o : Nat} {v : Value} (h : w.cell? ⟨b, o, none⟩ = some v) : w.setCell ⟨b, o, none⟩ v = w := by
  unfold World.cell? at h
  unfold World.setCell
  split at h <;> rename_i hb
  · rename_i cs T f
    have hk : w.heap.modify b (fun x => match x with | .cells c elem frozen => .cells (c.setIfInBounds o v) elem frozen | o => o) = w.heap := by
      apply Array.ext_getElem?
      intro i
      rw [Array.getElem?_modify]
      by_cases hi : b = i
      · subst hi; rw [if_pos rfl, hb, Option.map_some]; simp only [set_same _ _ _ h]
      · rw [if_neg hi]
    show { w with heap := w.heap.modify b (fun x => match x with | .cells c elem frozen => .cells (c.setIfInBounds o v) elem frozen | o => o) } = w
    rw [hk]
  all_goals simp_all
theorem CwAt.setCell {w : World} {base g p o : Nat} {l : List UInt8} {bad : Bool} {u : Value} (h : CwAt w base g l bad) (hp : p ≠ g) (hs : ∀ sv, w.cell? ⟨g, 0, none⟩ = some sv → sv.ownBlock ≠ some p) : CwAt (w.setCell ⟨p, o, none⟩ u) base g l bad := by
  obtain ⟨v, hg, ho, hb, hne⟩ := h
  have h0 := hs v (cell_row hg 0)
  exact ⟨v, (Below.heap_setCell w ⟨p, o, none⟩ u g (fun e => hp e.symm)).trans hg, own_move ho (fun j hj => Below.heap_setCell _ _ _ _ (fun e => h0 (by rw [hj]; exact congrArg some e))), hb, hne⟩
theorem CwAt.fresh {w : World} {base g : Nat} {l : List UInt8} {bad : Bool} (h : CwAt w base g l bad) : g < w.heap.size ∧ ∀ sv, w.cell? ⟨g, 0, none⟩ = some sv → sv.ownBlock ≠ some w.heap.size := by
  obtain ⟨v, hg, ho, hb, hne⟩ := h
  refine ⟨(Array.getElem?_eq_some_iff.1 hg).1, fun sv hsv e => ?_⟩
  rw [show w.cell? ⟨g, 0, none⟩ = some v from cell_row hg 0] at hsv
  obtain rfl := Option.some.inj hsv
  exact Nat.lt_irrefl _ (own_block_lt ho _ e)
/-- A number written from a block of its own: the block stays. -/
theorem ck_own {w : World} {base g p : Nat} {l : List UInt8} {bad : Bool} {T : TypeId} (k : Nat) (n : Int) (h : CwAt w base g l bad) (hk : 1 ≤ k ∧ k ≤ 8) (hn : -9223372036854775808 ≤ n ∧ n ≤ 9223372036854775807) (hc : w.heap[p]? = some (.cells #[.int .i64 n] T (0, 0))) (hp : p ≠ g) (hs : ∀ sv, w.cell? ⟨g, 0, none⟩ = some sv → sv.ownBlock ≠ some p) (hl : l.length ≤ 100000) (hbs : base ≤ w.heap.size) :
    Calls Try.prog 181 #[.pointer (some ⟨g, 0, none⟩), .int .i64 (k : Int), .pointer (some ⟨p, 0, none⟩)] w fun e w' => e = .returned (.tuple #[]) ∧ CwAt w' base g (l ++ wB k n.toNat) ((bad || decide (n < 0)) || !fitB k n.toNat) ∧ Below base w w' ∧ w'.heap[p]? = some (.cells #[.int .i64 n] T (0, 0)) := by
  refine (ck_int k n p 0 h hk hn (cell_row hc 0) hl hbs).mono ?_
  rintro e w' ⟨⟨rfl, h1, h2⟩, h3⟩
  refine ⟨rfl, h1, h2, ?_⟩
  obtain ⟨v, hg, ho, hb, hne⟩ := h
  exact (h3 p v (Array.getElem?_eq_some_iff.1 hc).1 hp (cell_row hg 0) (hs v (cell_row hg 0))).trans hc
set_option maxRecDepth 10000 in
set_option maxHeartbeats 4000000 in
theorem pw_flag {w : World} {base g : Nat} {l : List UInt8} {bad : Bool} (c : Bool) (pb po : Nat) (cs : Array Value) (T : TypeId) (h : CwAt w base g l bad) (hb : w.heap[pb]? = some (.cells cs T (0, 0))) (hcs : cs[po]? = some (.bool c)) (hl : l.length ≤ 90000) (hbs : base ≤ w.heap.size) (hpb : pb < base) :
    Calls Try.prog 129 #[wV g, .pointer (some ⟨pb, po, none⟩)] w (CwTo w base g (l ++ fB [(1, flagN c)]) (bad || fBad [(1, flagN c)])) := by
  have na_int := fun W => na_w ⟨g, 0, none⟩ W "drumlin/codec.int" (by simp)
  have mt_int := fun W => mw_int ⟨g, 0, none⟩ W
  have hal := (Below.refl w.heap.size w).alloc (Nat.le_refl _) (.cells #[.int .i64 0] 3 (0, 0))
  have HN := Lib.hid (heap_alloc_last w (.cells #[.int .i64 0] 3 (0, 0)))
  have HB1 := Lib.hid (old_heap hb hal)
  have HW1 := Lib.hid (h.below hal)
  have HBL := Lib.hid (show Below base w _ from hal.mono hbs)
  have hfr := h.fresh
  have HSV : Hid (∀ sv, (w.alloc (.cells #[.int .i64 0] 3 (0, 0))).cell? ⟨g, 0, none⟩ = some sv → sv.ownBlock ≠ some w.heap.size) := Lib.hid (fun sv hsv => hfr.2 sv ((hal.cell (p := ⟨g, 0, none⟩) hfr.1).symm.trans hsv))
  have hpg : w.heap.size ≠ g := by have := hfr.1; omega
  have hsz : (w.alloc (.cells #[.int .i64 0] 3 (0, 0))).heap.size = w.heap.size + 1 := by simp
  clear h hal hfr
  unfold wV
  unfold CwTo
  go_enter Try.func129, Try.ntmps129
  go_upto_region 1 with fail
  revert HN HB1 HW1 HBL HSV hpg hsz
  generalize w.alloc (.cells #[.int .i64 0] 3 (0, 0)) = w1
  generalize hp : w.heap.size = p
  intro HN HB1 HW1 HBL HSV hpg hsz
  have hpp : ¬ (pb = p) := by omega
  have c0 : w1.cell? ⟨pb, po, none⟩ = some (.bool c) := (cell_row HB1.out po).trans hcs
  have cn : w1.cell? ⟨p, 0, none⟩ = some (.int .i64 0) := cell_row HN.out 0
  have fn : w1.frozen? ⟨p, 0, none⟩ = false := free_row HN.out 0
  have fb := free_row HB1.out po
  have HX : ∀ w2, CwAt w2 base g l bad → w2.heap[p]? = some (.cells #[.int .i64 (flagN c)] 3 (0, 0)) → (∀ sv, w2.cell? ⟨g, 0, none⟩ = some sv → sv.ownBlock ≠ some p) → base ≤ w2.heap.size → Calls Try.prog 181 #[.pointer (some ⟨g, 0, none⟩), .int .i64 (1 : Int), .pointer (some ⟨p, 0, none⟩)] w2 fun e w' => e = .returned (.tuple #[]) ∧ CwAt w' base g (l ++ fB [(1, flagN c)]) (bad || fBad [(1, flagN c)]) ∧ Below base w2 w' ∧ w'.heap[p]? = some (.cells #[.int .i64 (flagN c)] 3 (0, 0)) := fun w2 h2 hc2 hs2 hz2 => by
    have := ck_own 1 (flagN c) h2 (by decide) (by cases c <;> decide) hc2 hpg hs2 (by omega) hz2
    have hE : l ++ fB [(1, flagN c)] = l ++ wB 1 (flagN c).toNat := by simp [fB]
    have hF : (bad || fBad [(1, flagN c)]) = ((bad || decide (flagN c < 0)) || !fitB 1 (flagN c).toNat) := by simp [fBad, Bool.or_assoc]
    rw [hE, hF]
    exact this
  have HXX := Lib.hid HX
  clear HX
  cases c with
  | true =>
    have h2 := HW1.out.setCell (o := 0) (u := .int .i64 1) hpg HSV.out
    have hn2 := head_set HN.out 0 (.int .i64 1)
    have HP := Lib.hid (HXX.out _ h2 (by simpa [flagN] using hn2) (fun sv hsv => HSV.out sv (by
      have := Below.heap_setCell w1 ⟨p, 0, none⟩ (.int .i64 1) g (fun e => hpg e.symm)
      unfold World.cell? at hsv ⊢
      rw [this] at hsv
      exact hsv)) (by simp [World.setCell]; omega))
    have HBQ := Lib.hid (HBL.out.setCell (p := ⟨p, 0, none⟩) (by show base ≤ p; omega) (.int .i64 1))
    have HBP := Lib.hid ((Below.heap_setCell w1 ⟨p, 0, none⟩ (.int .i64 1) pb hpp).trans HB1.out)
    clear h2 hn2 HXX
    go_upto_region 3 with fail
    go_wp2_with (go_at_call 181; go_must (refine HP.out.mono ?_; rintro e w2 ⟨rfl, hcw, hbw, hn2⟩; have HW2 := Lib.hid hcw; have HB2 := Lib.hid (HBQ.out.trans hbw); have hbb := (hbw.block pb hpb).trans HBP.out; have k0 : w2.cell? ⟨p, 0, none⟩ = some (.int .i64 1) := cell_row hn2 0; have k1 : w2.cell? ⟨pb, po, none⟩ = some (.bool true) := (cell_row hbb po).trans hcs; have k2 := free_row hbb po; clear hcw hbw hn2 hbb))
    go_end0
    refine ⟨rfl, ?_, ?_⟩ <;> first | (rw [setCell_keep k1]; exact HW2.out) | (rw [setCell_keep k1]; exact HB2.out)
  | false =>
    have HP := Lib.hid (HXX.out _ HW1.out HN.out HSV.out (by omega))
    clear HXX
    go_upto_region 3 with fail
    go_wp2_with (go_at_call 181; go_must (refine HP.out.mono ?_; rintro e w2 ⟨rfl, hcw, hbw, hn2⟩; have HW2 := Lib.hid hcw; have HB2 := Lib.hid (HBL.out.trans hbw); have hbb := (hbw.block pb hpb).trans HB1.out; have k0 : w2.cell? ⟨p, 0, none⟩ = some (.int .i64 0) := cell_row hn2 0; have k1 : w2.cell? ⟨pb, po, none⟩ = some (.bool false) := (cell_row hbb po).trans hcs; have k2 := free_row hbb po; clear hcw hbw hn2 hbb))
    go_end0
    refine ⟨rfl, ?_, ?_⟩ <;> first | (rw [setCell_keep k1]; exact HW2.out) | (rw [setCell_keep k1]; exact HB2.out)
set_option maxRecDepth 10000 in
set_option maxHeartbeats 4000000 in
theorem pr_flag {w : World} {g a : Nat} {v : Value} {l : List UInt8} {bad : Bool} (pb po : Nat) (cs : Array Value) (T : TypeId) (h : CrAt w g v l a bad) (ha : a ≤ 1000) (hl : l.length ≤ 1000) (hb : w.heap[pb]? = some (.cells cs T (0, 0))) (hc : cs[po]? = some (.bool false)) (hpg : pb ≠ g) (hv : Apart (· = pb) v l) :
    Calls Try.prog 129 #[rV g, .pointer (some ⟨pb, po, none⟩)] w fun e w' => e = .returned (.tuple #[]) ∧ CrTo w g v l (a + 1) (bad || !rOk l a 1) pb po cs T (.bool (decide (rN l a 1 = 1))) w' := by
  have na_int := fun W => na_r ⟨g, 0, none⟩ W "drumlin/codec.int" (by simp)
  have mt_int := fun W => mr_int ⟨g, 0, none⟩ W
  have hgl : g < w.heap.size := (Array.getElem?_eq_some_iff.1 h.box).1
  have hpl : pb < w.heap.size := (Array.getElem?_eq_some_iff.1 hb).1
  have hba := (Below.refl w.heap.size w).alloc (Nat.le_refl _) (.cells #[.int .i64 0] 3 (0, 0))
  have hnew := heap_alloc_last w (.cells #[.int .i64 0] 3 (0, 0))
  have hvn : Apart (· = w.heap.size) v l := byt_apart h.byt
  have HW := Lib.hid (cr_int 1 w.heap.size 0 #[.int .i64 0] 3 0 (h.below hba) (by decide) ha hl hnew rfl (by omega) hvn)
  have HB := Lib.hid hba
  have HP := Lib.hid (old_heap hb hba)
  have HC := Lib.hid hc
  have HN := Lib.hid hnew
  have c0 := (cell_row HP.out po).trans hc
  have cn := cell_row HN.out 0
  obtain ⟨x, hxe⟩ : ∃ x, rN l a 1 = x := ⟨_, rfl⟩
  obtain ⟨b2, hb2⟩ : ∃ b2, (bad || !rOk l a 1) = b2 := ⟨_, rfl⟩
  rw [hxe, hb2] at HW
  rw [hxe, hb2]
  clear hb2 h hba hnew hb hc
  unfold rV
  go_enter Try.func129, Try.ntmps129
  go_upto_region 1 with fail
  go_upto_region 3 with fail
  go_wp2_with (go_at_call 185; go_must (refine HW.out.mono ?_; rintro e w2 ⟨rfl, hct⟩; have hbx := hct.cell; have hpb2 := hct.keep.heap HP.out (by omega); have k0 : w2.cell? ⟨w.heap.size, 0, none⟩ = some (.int .i64 (x : Int)) := cell_row hbx 0; have k1 : w2.cell? ⟨pb, po, none⟩ = some (.bool false) := (cell_row hpb2 po).trans HC.out; have f1 := free_row hpb2 po; have HCT := Lib.hid hct; have HPB := Lib.hid hpb2; clear hct hbx hpb2))
  go_end0
  have hde : (decide ((x : Int) = 1)) = decide (x = 1) := by rw [Bool.eq_iff_iff]; simp; omega
  rw [← hde]
  exact ⟨rfl, cr_back HB.out HCT.out HPB.out hpg hv (Nat.le_refl _)⟩
end Go.Proofs.Ytcpfafmkhegckaa
