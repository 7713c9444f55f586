/-
  Codec: write and read of one kind.
-/
import Derived.Test.YtlcbfpcabalgcaaCodH
import Derived.Test.YtlcbfpcabalgcaaCodE
namespace Go.Proofs.Ytlcbfpcabalgcaa
open Go.RowKit
set_option linter.unusedVariables false
set_option linter.unusedSimpArgs false
set_option linter.unnecessarySimpa false
theorem infoHeader : (Try.prog.info? 46).map (·.size) = some 6 := by kernel_rfl
set_option maxRecDepth 10000 in
set_option maxHeartbeats 8000000 in
theorem wr_header (kind : UInt8) (C : Array Value) (mayb : Bool) (L : List UInt8) (bad : Bool) (w : World) (hC : C.size = 6)
    (hm : ∀ w', Below w.heap.size w w' → Calls Try.prog 55 #[.agg C] w' fun e w'' => e = .returned (.bool mayb) ∧ Below w'.heap.size w' w'')
    (hp : ∀ w' base g pb, Below w.heap.size w w' → CwAt w' base g [] false → w'.heap[pb]? = some (.cells C 46 (0, 0)) → base ≤ w'.heap.size → pb < base → Calls Try.prog 54 #[wV g, .pointer (some ⟨pb, 0, none⟩)] w' (CwTo w' base g L bad)) :
    Calls Try.prog 53 #[.int .u8 (kind.toNat : Int), .agg C, .func (.func 54) #[] #[], .func (.func 55) #[] #[]] w (WrS w kind (mayb && !bad) L) := by
  have HC := Lib.hid hC
  have HM := Lib.hid hm
  have HP := Lib.hid hp
  clear hC hm hp
  go_enter Try.func53, Try.ntmps53
  go_upto_region 2 with fail
  have hA := a3 w (.cells C 46 (0, 0)) (.cells Try.zeroCells29 29 (0, 0)) (.cells #[.slice none 0 0, .bool false] 167 (0, 0))
  revert hA
  generalize ((w.alloc (.cells C 46 (0, 0))).alloc (.cells Try.zeroCells29 29 (0, 0))).alloc (.cells #[.slice none 0 0, .bool false] 167 (0, 0)) = w2
  intro hA
  have HA := Lib.hid hA
  clear hA
  cases mayb with
  | false =>
    go_wp2_with (first
      | (refine wpList_load_row rfl 46 (.tmp 5) rfl w.heap.size rfl _ _ _ _ HA.out.h0 Try.underlying46 rfl (by rw [HC.out]; exact infoHeader) ?_)
      | (go_at_call 55; refine (HM.out w2 HA.out.bel).mono ?_; rintro e w3 ⟨rfl, hb3⟩; have HT := Lib.hid (old_heap HA.out.h1 hb3); have HB := Lib.hid (bnext HA.out.bel hb3); clear hb3)
      | (refine wpList_store_row rfl 29 (.tmp 8) (.tmp 17) rfl (w.heap.size + 1) zArr zArr 29 rfl rfl HT.out (by rw [zArr_size]; exact size_sec) rfl zArr_one ?_))
    have hld := run_loadVar_row (P := Try.prog) (w3.setRow (w.heap.size + 1) zArr) (w.heap.size + 1) 29 29 zArr (0, 0) _ (setRow_heap _ _ _ _ _ _ HT.out) Try.underlying29 (by simp) (by rw [zArr_size]; exact size_sec)
    exact bodyPost_ret (v := .tuple #[secV (List.replicate 128 0), .int .i64 1]) (results_cell2 Try.results53 rfl rfl hld) rfl (wrS_no rfl rfl (below_row HB.out (by omega)))
  | true =>
    go_upto_region 4 with (first
      | (refine wpList_load_row rfl 46 (.tmp 5) rfl w.heap.size rfl _ _ _ _ HA.out.h0 Try.underlying46 rfl (by rw [HC.out]; exact infoHeader) ?_)
      | (go_at_call 55; refine (HM.out w2 HA.out.bel).mono ?_; rintro e w3 ⟨rfl, hb3⟩; have HB := Lib.hid (bnext HA.out.bel hb3); have HX := Lib.hid (old_heap HA.out.h0 hb3); have HT := Lib.hid (old_heap HA.out.h1 hb3); have HG := Lib.hid (old_heap HA.out.h2 hb3); clear hb3))
    have hgl := (Array.getElem?_eq_some_iff.1 HG.out).1
    have hcw : CwAt w3 (w.heap.size + 1 + 1) (w.heap.size + 1 + 1) [] false := ⟨.slice none 0 0, HG.out, own_none _ _ _, Nat.le_refl _, fun k hk => by cases hk⟩
    have hpp := HP.out w3 (w.heap.size + 1 + 1) (w.heap.size + 1 + 1) w.heap.size HB.out hcw HX.out (by omega) (by omega)
    unfold CwTo wV at hpp
    have HPP := Lib.hid hpp
    clear hpp hcw hgl
    go_upto_region 5 with (go_at_call 54; refine HPP.out.mono ?_; rintro e w4 ⟨rfl, hcw, hb4⟩; have HB4 := Lib.hid (HB.out.trans (hb4.mono (by omega))); have HT4 := Lib.hid ((hb4.block (w.heap.size + 1) (by omega)).trans HT.out); have HCW := Lib.hid hcw; clear hcw hb4)
    obtain ⟨v4, hg4, ho4, -, -⟩ := HCW.out
    obtain ⟨sp4, cp4, rfl⟩ := own_slice1 ho4
    have HMK := Lib.hid (make_any kind _ L w4 (own_byt ho4).1)
    have c0 : w4.cell? ⟨w.heap.size + 1 + 1, 0, none⟩ = some (.slice sp4 L.length cp4) := cell_row hg4 0
    have c1 : w4.cell? ⟨w.heap.size + 1 + 1, 1, none⟩ = some (.bool bad) := cell_row hg4 1
    have hms : (bvs (makeS kind L)).toArray.size = 128 := by rw [secV_size, makeS_length]
    have HMS := Lib.hid hms
    clear hg4 ho4 HPP HCW HX HG HM HP hms
    cases bad with
    | true =>
      go_wp2_with (refine wpList_store_row rfl 29 (.tmp 8) (.tmp 26) rfl (w.heap.size + 1) zArr zArr 29 rfl rfl HT4.out (by rw [zArr_size]; exact size_sec) rfl zArr_one ?_)
      have hld := run_loadVar_row (P := Try.prog) (w4.setRow (w.heap.size + 1) zArr) (w.heap.size + 1) 29 29 zArr (0, 0) _ (setRow_heap _ _ _ _ _ _ HT4.out) Try.underlying29 (by simp) (by rw [zArr_size]; exact size_sec)
      exact bodyPost_ret (v := .tuple #[secV (List.replicate 128 0), .int .i64 1]) (results_cell2 Try.results53 rfl rfl hld) rfl (wrS_no rfl rfl (below_row HB4.out (by omega)))
    | false =>
      obtain ⟨S, hS⟩ : ∃ S, makeS kind L = S := ⟨_, rfl⟩
      obtain ⟨N, hN⟩ : ∃ N, makeE kind L = N := ⟨_, rfl⟩
      rw [hS, hN] at HMK
      rw [hS] at HMS
      have HS := Lib.hid hS
      have HN := Lib.hid hN
      clear hS hN
      unfold secV at HMK
      go_wp2_with (first
        | (go_at_call 82; refine HMK.out.mono ?_; rintro e w5 ⟨rfl, hb5⟩; have HT5 := Lib.hid (old_heap HT4.out hb5); have HB5 := Lib.hid (bnext HB4.out hb5); clear hb5)
        | (refine wpList_store_row rfl 29 (.tmp 8) (.tmp 33) rfl (w.heap.size + 1) zArr (bvs S).toArray 29 rfl rfl HT5.out (by rw [HMS.out]; exact size_sec) (by rw [HMS.out, zArr_size]) (sec_one _) ?_))
      have hld := run_loadVar_row (P := Try.prog) (w5.setRow (w.heap.size + 1) (bvs S).toArray) (w.heap.size + 1) 29 29 (bvs S).toArray (0, 0) _ (setRow_heap _ _ _ _ _ _ HT5.out) Try.underlying29 (by simp) (by rw [HMS.out]; exact size_sec)
      exact bodyPost_ret (v := .tuple #[secV S, .int .i64 N]) (results_cell2 Try.results53 rfl rfl hld) rfl (wrS_yes rfl (by rw [HS.out, HN.out]) (below_row HB5.out (by omega)))
set_option maxRecDepth 10000 in
set_option maxHeartbeats 8000000 in
theorem rd_header (Z : Array Value) (hZ : Z = #[.int .u64 0, .int .u64 0, .int .i64 0, .int .i64 0, .int .i64 0, .int .u32 0]) (kind : UInt8) (l : List UInt8) (V : Array Value) (at_ : Nat) (mayb : Bool) (bad : Bool) (w : World) (hl : l.length = 128) (hV : V.size = 6) (hV1 : V.all (·.oneCell') = true)
    (hm : ∀ w', Calls Try.prog 55 #[.agg V] w' fun e w'' => e = .returned (.bool mayb) ∧ Below w'.heap.size w' w'')
    (hp : ∀ w' g v pb, CrAt w' g v (openL l) 0 false → w'.heap[pb]? = some (.cells Z 46 (0, 0)) → pb ≠ g → Apart (· = pb) v (openL l) → Calls Try.prog 54 #[rV g, .pointer (some ⟨pb, 0, none⟩)] w' fun e w'' => e = .returned (.tuple #[]) ∧ CrPass w' g v (openL l) at_ bad pb V 46 w'') :
    Calls Try.prog 58 #[.int .u8 (kind.toNat : Int), secV l, .func (.func 54) #[] #[], .func (.func 55) #[] #[]] w (RdS w ((openB l && decide (openK l = kind)) && ((!bad && decide (at_ = (openL l).length)) && mayb)) V Z) := by
  have HZS : Hid (Z.size = 6) := by rw [hZ]; exact rfl
  have HZ1 : Hid (Z.all (·.oneCell') = true) := by unfold Hid; rw [hZ]; kernel_rfl
  have HZE := Lib.hid hZ
  clear hZ
  have HL := Lib.hid hl
  have HM := Lib.hid hm
  have HP := Lib.hid hp
  have HV := Lib.hid hV
  have HV1 := Lib.hid hV1
  have HSZ : Hid ((bvs l).toArray.size = 128) := by unfold Hid; rw [secV_size, hl]
  have HBL := Lib.hid (openL_le l)
  have hop := fun w' => open_any l w' hl
  obtain ⟨k, hk⟩ : ∃ k, openK l = k := ⟨_, rfl⟩
  obtain ⟨b, hb⟩ : ∃ b, openL l = b := ⟨_, rfl⟩
  obtain ⟨oe, hoe⟩ : ∃ oe, openE l = oe := ⟨_, rfl⟩
  rw [hk, hb, hoe] at hop
  rw [hb] at HP HBL
  rw [hk, hb]
  have HOP := fun w' => Lib.hid (hop w')
  have HOE := Lib.hid hoe
  clear hop hk hb hoe hl hm hp hV hV1
  unfold secV at HOP ⊢
  unfold OpTo at HOP
  go_enter Try.func58, Try.ntmps58
  go_upto_region 2 with fail
  have hA := a4 w (.cells (bvs l).toArray 29 (0, 0)) (.cells #[.int .u64 0, .int .u64 0, .int .i64 0, .int .i64 0, .int .i64 0, .int .u32 0] 46 (0, 0)) (.cells #[.int .u64 0, .int .u64 0, .int .i64 0, .int .i64 0, .int .i64 0, .int .u32 0] 46 (0, 0)) (.cells #[.int .u64 0, .int .u64 0, .int .i64 0, .int .i64 0, .int .i64 0, .int .u32 0] 46 (0, 0))
  revert hA
  generalize (((w.alloc (.cells (bvs l).toArray 29 (0, 0))).alloc (.cells #[.int .u64 0, .int .u64 0, .int .i64 0, .int .i64 0, .int .i64 0, .int .u32 0] 46 (0, 0))).alloc (.cells #[.int .u64 0, .int .u64 0, .int .i64 0, .int .i64 0, .int .i64 0, .int .u32 0] 46 (0, 0))).alloc (.cells #[.int .u64 0, .int .u64 0, .int .i64 0, .int .i64 0, .int .i64 0, .int .u32 0] 46 (0, 0)) = w2
  intro hA
  rw [← HZE.out] at hA
  have HA := Lib.hid hA
  clear hA
  go_upto_region 3 with (first
    | (refine wpList_load_row rfl 29 (.tmp 5) rfl w.heap.size rfl _ _ _ _ HA.out.h0 Try.underlying29 rfl (by rw [HSZ.out]; exact size_sec) ?_)
    | (go_at_call 84; refine (HOP _).out.mono ?_; rintro e w3 ⟨v, rfl, ho3, hb3⟩; obtain ⟨sp, cp, rfl⟩ := own_slice1 ho3; have HO3 := Lib.hid ho3; have HB3 := Lib.hid (bnext HA.out.bel hb3); have HR := Lib.hid (old_heap HA.out.h1 hb3); have HX := Lib.hid (old_heap HA.out.h2 hb3); have HN := Lib.hid (old_heap HA.out.h3 hb3); have hs3 := hb3.size; clear ho3 hb3))
  have hs2 := HA.out.size
  have hz3 : w.heap.size + 1 + 1 + 1 + 1 ≤ w3.heap.size := by omega
  have HZ2 := Lib.hid (show w.heap.size + 1 + 1 < w2.heap.size by omega)
  clear hs2 hs3 HA
  have HZ3 := Lib.hid hz3
  clear hz3
  cases ho : openB l with
  | false =>
    obtain rfl : oe = 21 := by rw [← HOE.out]; unfold openE; rw [ho]; rfl
    go_wp2_with (first
      | (refine wpList_load_row rfl 46 (.tmp 11) rfl (w.heap.size + 1 + 1 + 1) rfl _ _ _ _ HN.out Try.underlying46 rfl (by rw [HZS.out]; exact infoHeader) ?_)
      | (refine wpList_store_row rfl 46 (.tmp 8) (.tmp 29) rfl (w.heap.size + 1) Z Z 46 rfl rfl HR.out (by rw [HZS.out]; exact infoHeader) rfl HZ1.out ?_))
    have hld := run_loadVar_row (P := Try.prog) (w3.setRow (w.heap.size + 1) Z) (w.heap.size + 1) 46 46 Z (0, 0) _ (setRow_heap _ _ _ _ _ _ HR.out) Try.underlying46 (by simp) (by rw [HZS.out]; exact infoHeader)
    exact bodyPost_ret (v := .tuple #[.agg Z, .int .i64 21]) (results_cell2 Try.results58 rfl rfl hld) rfl (rdS_no (by simp [ho]) rfl (below_row HB3.out (by omega)))
  | true =>
    obtain rfl : oe = 0 := by rw [← HOE.out]; unfold openE; rw [ho]; rfl
    by_cases hk : k = kind
    · subst hk
      have hkk := kind_eq k
      go_upto_region 6 with fail
      have hg4 := heap_alloc_last w3 (.cells #[.slice sp b.length cp, .int .i64 0, .bool false] 181 (0, 0))
      have hb4 : Below w3.heap.size w3 (w3.alloc (.cells #[.slice sp b.length cp, .int .i64 0, .bool false] 181 (0, 0))) := (Below.refl _ _).alloc (Nat.le_refl _) _
      revert hg4 hb4
      generalize w3.alloc (.cells #[.slice sp b.length cp, .int .i64 0, .bool false] 181 (0, 0)) = w4
      intro hg4 hb4
      have hbt4 := (own_byt HO3.out).1.below hb4
      have hcr : CrAt w4 w3.heap.size (.slice sp b.length cp) b 0 false := ⟨hg4, hbt4, byt_apart (own_byt HO3.out).1⟩
      have hap : Apart (· = w.heap.size + 1 + 1) (.slice sp b.length cp) b := own_apart HO3.out (by have := HZ2.out; omega)
      have HPP := Lib.hid (HP.out w4 w3.heap.size (.slice sp b.length cp) (w.heap.size + 1 + 1) hcr (old_heap HX.out hb4) (by have := HZ3.out; omega) hap)
      unfold rV at HPP
      have HB4 := Lib.hid (bnext HB3.out hb4)
      have HR4 := Lib.hid (old_heap HR.out hb4)
      have HN4 := Lib.hid (old_heap HN.out hb4)
      have hne : w3.heap.size ≠ w.heap.size + 1 ∧ w3.heap.size ≠ w.heap.size + 1 + 1 + 1 := by have := HZ3.out; omega
      have HNE := Lib.hid hne
      clear hg4 hb4 hbt4 hcr hap HP HR HN HX hne
      go_upto_region 7 with (go_at_call 54; refine HPP.out.mono ?_; rintro e w5 ⟨rfl, hcp⟩; have HCP := Lib.hid hcp; clear hcp)
      have c0 : w5.cell? ⟨w3.heap.size, 0, none⟩ = some (.slice sp b.length cp) := cell_row HCP.out.form.box 0
      have c1 : w5.cell? ⟨w3.heap.size, 1, none⟩ = some (.int .i64 (at_ : Int)) := cell_row HCP.out.form.box 1
      have c2 : w5.cell? ⟨w3.heap.size, 2, none⟩ = some (.bool bad) := cell_row HCP.out.form.box 2
      have HR5 := Lib.hid (HCP.out.keep.heap HR4.out (by have := HNE.out; omega))
      have HN5 := Lib.hid (HCP.out.keep.heap HN4.out (by have := HNE.out; omega))
      have HX5 := Lib.hid HCP.out.cell
      have HB5 := Lib.hid (keep_below2 HB4.out HCP.out.keep (Nat.le_refl _) (by have := HZ3.out; omega) (by omega))
      clear HPP HR4 HN4 HB4 HCP HO3
      cases bad with
      | true =>
        go_wp2_with (first
          | (refine wpList_load_row rfl 46 (.tmp 11) rfl (w.heap.size + 1 + 1 + 1) rfl _ _ _ _ HN5.out Try.underlying46 rfl (by rw [HZS.out]; exact infoHeader) ?_)
          | (refine wpList_store_row rfl 46 (.tmp 8) (.tmp 56) rfl (w.heap.size + 1) Z Z 46 rfl rfl HR5.out (by rw [HZS.out]; exact infoHeader) rfl HZ1.out ?_))
        have hld := run_loadVar_row (P := Try.prog) (w5.setRow (w.heap.size + 1) Z) (w.heap.size + 1) 46 46 Z (0, 0) _ (setRow_heap _ _ _ _ _ _ HR5.out) Try.underlying46 (by simp) (by rw [HZS.out]; exact infoHeader)
        exact bodyPost_ret (v := .tuple #[.agg Z, .int .i64 21]) (results_cell2 Try.results58 rfl rfl hld) rfl (rdS_no (by simp [ho]) rfl (below_row HB5.out (by omega)))
      | false =>
        by_cases hat : at_ = b.length
        · have hatI : ((at_ : Int) != (b.length : Int)) = false := by simp [hat]
          have HAT := Lib.hid hat
          clear hat
          cases mayb with
          | true =>
            go_wp2_with (first
              | (refine wpList_load_row_g (by rfl) 46 (.tmp 10) rfl (w.heap.size + 1 + 1) rfl _ _ _ _ HX5.out Try.underlying46 rfl (by rw [HV.out]; exact infoHeader) ?_)
              | (go_at_call 55; refine (HM.out _).mono ?_; rintro e w6 ⟨rfl, hb6⟩; have HR6 := Lib.hid (old_heap HR5.out hb6); have HX6 := Lib.hid (old_heap HX5.out hb6); have HB6 := Lib.hid (bnext HB5.out hb6); clear hb6)
              | (refine wpList_load_row rfl 46 (.tmp 10) rfl (w.heap.size + 1 + 1) rfl _ _ _ _ HX6.out Try.underlying46 rfl (by rw [HV.out]; exact infoHeader) ?_)
              | (refine wpList_store_row rfl 46 (.tmp 8) (.tmp 57) rfl (w.heap.size + 1) Z V 46 rfl rfl HR6.out (by rw [HV.out]; exact infoHeader) (by rw [HV.out, HZS.out]) HV1.out ?_))
            have hld := run_loadVar_row (P := Try.prog) (w6.setRow (w.heap.size + 1) V) (w.heap.size + 1) 46 46 V (0, 0) _ (setRow_heap _ _ _ _ _ _ HR6.out) Try.underlying46 (by simp) (by rw [HV.out]; exact infoHeader)
            exact bodyPost_ret (v := .tuple #[.agg V, .int .i64 0]) (results_cell2 Try.results58 rfl rfl hld) rfl (rdS_yes (by simp [HAT.out, ho]) rfl (below_row HB6.out (by omega)))
          | false =>
            go_wp2_with (first
              | (refine wpList_load_row_g (by rfl) 46 (.tmp 10) rfl (w.heap.size + 1 + 1) rfl _ _ _ _ HX5.out Try.underlying46 rfl (by rw [HV.out]; exact infoHeader) ?_)
              | (go_at_call 55; refine (HM.out _).mono ?_; rintro e w6 ⟨rfl, hb6⟩; have HR6 := Lib.hid (old_heap HR5.out hb6); have HN6 := Lib.hid (old_heap HN5.out hb6); have HB6 := Lib.hid (bnext HB5.out hb6); clear hb6)
              | (refine wpList_load_row rfl 46 (.tmp 11) rfl (w.heap.size + 1 + 1 + 1) rfl _ _ _ _ HN6.out Try.underlying46 rfl (by rw [HZS.out]; exact infoHeader) ?_)
              | (refine wpList_store_row rfl 46 (.tmp 8) (.tmp 56) rfl (w.heap.size + 1) Z Z 46 rfl rfl HR6.out (by rw [HZS.out]; exact infoHeader) rfl HZ1.out ?_))
            have hld := run_loadVar_row (P := Try.prog) (w6.setRow (w.heap.size + 1) Z) (w.heap.size + 1) 46 46 Z (0, 0) _ (setRow_heap _ _ _ _ _ _ HR6.out) Try.underlying46 (by simp) (by rw [HZS.out]; exact infoHeader)
            exact bodyPost_ret (v := .tuple #[.agg Z, .int .i64 21]) (results_cell2 Try.results58 rfl rfl hld) rfl (rdS_no (by simp [ho]) rfl (below_row HB6.out (by omega)))
        · have hatI : ((at_ : Int) != (b.length : Int)) = true := bne_iff_ne.2 (by omega)
          have HAT := Lib.hid hat
          clear hat
          go_wp2_with (first
            | (refine wpList_load_row rfl 46 (.tmp 11) rfl (w.heap.size + 1 + 1 + 1) rfl _ _ _ _ HN5.out Try.underlying46 rfl (by rw [HZS.out]; exact infoHeader) ?_)
            | (refine wpList_store_row rfl 46 (.tmp 8) (.tmp 56) rfl (w.heap.size + 1) Z Z 46 rfl rfl HR5.out (by rw [HZS.out]; exact infoHeader) rfl HZ1.out ?_))
          have hld := run_loadVar_row (P := Try.prog) (w5.setRow (w.heap.size + 1) Z) (w.heap.size + 1) 46 46 Z (0, 0) _ (setRow_heap _ _ _ _ _ _ HR5.out) Try.underlying46 (by simp) (by rw [HZS.out]; exact infoHeader)
          exact bodyPost_ret (v := .tuple #[.agg Z, .int .i64 21]) (results_cell2 Try.results58 rfl rfl hld) rfl (rdS_no (by simp [HAT.out, ho]) rfl (below_row HB5.out (by omega)))
    · have hkk := kind_ne k kind hk
      have HK := Lib.hid hk
      clear hk
      go_wp2_with (first
        | (refine wpList_load_row rfl 46 (.tmp 11) rfl (w.heap.size + 1 + 1 + 1) rfl _ _ _ _ HN.out Try.underlying46 rfl (by rw [HZS.out]; exact infoHeader) ?_)
        | (refine wpList_store_row rfl 46 (.tmp 8) (.tmp 29) rfl (w.heap.size + 1) Z Z 46 rfl rfl HR.out (by rw [HZS.out]; exact infoHeader) rfl HZ1.out ?_))
      have hld := run_loadVar_row (P := Try.prog) (w3.setRow (w.heap.size + 1) Z) (w.heap.size + 1) 46 46 Z (0, 0) _ (setRow_heap _ _ _ _ _ _ HR.out) Try.underlying46 (by simp) (by rw [HZS.out]; exact infoHeader)
      exact bodyPost_ret (v := .tuple #[.agg Z, .int .i64 21]) (results_cell2 Try.results58 rfl rfl hld) rfl (rdS_no (by simp [HK.out, ho]) rfl (below_row HB3.out (by omega)))
end Go.Proofs.Ytlcbfpcabalgcaa
