/-
  A block of a directory is read: the walk of the reference's Read.
-/
import Derived.Test.YtcgfhpgjaibmhaaDirK
import Derived.StillTailTactics
import Derived.IntWalk
namespace Go.Proofs.Ytcgfhpgjaibmhaa
open Go.RowKit
set_option linter.unusedVariables false
set_option linter.unusedSimpArgs false
theorem built_rents : Try.prog.built 29 [] = some zCells := by kernel_rfl
theorem dr_sz {l : List UInt8} {j : Nat} (hj : j < 4) (h : ¬ dzE l j ≤ 29) : drB l = false := by
  have : j = 0 ∨ j = 1 ∨ j = 2 ∨ j = 3 := by omega
  unfold drB rdSz
  rw [decide_eq_false (by rcases this with rfl | rfl | rfl | rfl <;> omega)]; rfl
theorem dmE_eq {l : List UInt8} (hl : l.length = 128) (j : Nat) (hj : j < 4) : ((dmE l j : Nat) : Int) = ((l.getD (32 * j) 0).toNat : Int) + 256 * ((l.getD (32 * j + 1) 0).toNat : Int) := by
  unfold dmE
  rw [part_succ l (32 * j) 1 (by omega), d_part_one l (32 * j) (by omega)]
  simp
theorem rread06_end {w w' : World} {l : List UInt8} {cs zs : Array Value} {n : Bool} (hT : w'.heap[w.heap.size + 1]? = some (.cells zs 29 (0, 0))) (h8 : cs.size = 8)
    (h1 : Value.agg cs = drV l) (h2 : n = drB l) (hb : Below w.heap.size w w') {a' : Act} (hr : a'.tmps.getD 2 undef = .pointer (some ⟨w.heap.size + 1, 0, none⟩)) (h3 : a'.tmps.getD 3 undef = .bool n) (hd : a'.defers = []) :
    bodyPost Try.prog Try.f19 (fun e w' => e = .returned (.tuple #[drV l, .bool (drB l)]) ∧ Below w.heap.size w w') .ret a' (w'.setRow (w.heap.size + 1) cs) := by
  have hld := run_loadVar_row (P := Try.prog) (w'.setRow (w.heap.size + 1) cs) (w.heap.size + 1) 29 29 cs (0, 0) _ (setRow_heap _ _ _ _ _ _ hT) Try.underlying29 (by simp) (by rw [h8]; exact size_rents)
  refine bodyPost_ret (v := .tuple #[.agg cs, .bool n]) (results_cell2 Try.results19 hr h3 hld) hd ⟨by rw [h1, h2], ?_⟩
  exact hb.trans ⟨rfl, rfl, rfl, by rw [setRow_size]; exact Nat.le_refl _, fun k hk => setRow_other _ _ _ _ (by omega)⟩
theorem rd_equal_sector (w : World) (xs ys : List UInt8) (hx : xs.length = 128) (hy : ys.length = 128) : (Op.equalIn 10000 36 (secV xs) (secV ys)).run Try.prog w = .ok (decide (xs = ys)) w :=
  (have h : ∃ i, Try.prog.info? 5 = some i := by
    cases hi : Try.prog.info? 5 with
    | none => have := infoU8; rw [hi] at this; cases this
    | some i => exact ⟨i, rfl⟩
   let ⟨i, hi⟩ := h
   equal_sec Try.underlying36 hi (by kernel_rfl) (by kernel_rfl) Try.underlying5 w xs ys hx hy)
theorem rz_of {l : List UInt8} {j z : Nat} (h : z = dzE l j) : z < 256 := by rw [h]; exact UInt8.toNat_lt _
set_option maxHeartbeats 8000000 in
set_option maxRecDepth 10000 in
theorem rread06_any (l : List UInt8) (w : World) (hl : l.length = 128) :
    Calls Try.prog 19 #[secV l] w fun e w' => e = .returned (.tuple #[drV l, .bool (drB l)]) ∧ Below w.heap.size w w' := by
  have HL := Lib.hid hl
  have hz := zero_arr
  have HSZ : Hid ((bvs l).toArray.size = 128) := by unfold Hid; rw [secV_size, hl]
  obtain ⟨m0, hm0⟩ : ∃ m, m = dmE l 0 := ⟨_, rfl⟩
  obtain ⟨m1, hm1⟩ : ∃ m, m = dmE l 1 := ⟨_, rfl⟩
  obtain ⟨m2, hm2⟩ : ∃ m, m = dmE l 2 := ⟨_, rfl⟩
  obtain ⟨m3, hm3⟩ : ∃ m, m = dmE l 3 := ⟨_, rfl⟩
  obtain ⟨t0, ht0⟩ : ∃ t, t = dtE l 0 := ⟨_, rfl⟩
  obtain ⟨t1, ht1⟩ : ∃ t, t = dtE l 1 := ⟨_, rfl⟩
  obtain ⟨t2, ht2⟩ : ∃ t, t = dtE l 2 := ⟨_, rfl⟩
  obtain ⟨t3, ht3⟩ : ∃ t, t = dtE l 3 := ⟨_, rfl⟩
  have HM : Hid (m0 = dmE l 0 ∧ m1 = dmE l 1 ∧ m2 = dmE l 2 ∧ m3 = dmE l 3) := ⟨hm0, hm1, hm2, hm3⟩
  have HT : Hid (t0 = dtE l 0 ∧ t1 = dtE l 1 ∧ t2 = dtE l 2 ∧ t3 = dtE l 3) := ⟨ht0, ht1, ht2, ht3⟩
  clear hl hm0 hm1 hm2 hm3 ht0 ht1 ht2 ht3
  unfold secV
  go_enter Try.func19, Try.ntmps19
  go_upto_region 2 with fail
  have hg0 := heap_alloc_last w (.cells (bvs l).toArray 36 (0, 0))
  have hT1 := heap_alloc_last (w.alloc (.cells (bvs l).toArray 36 (0, 0))) (.cells #[.int .i64 0, .string ⟨#[]⟩, .int .i64 0, .string ⟨#[]⟩, .int .i64 0, .string ⟨#[]⟩, .int .i64 0, .string ⟨#[]⟩] 29 (0, 0))
  rw [show (w.alloc (.cells (bvs l).toArray 36 (0, 0))).heap.size = w.heap.size + 1 by simp] at hT1
  have hP1 := heap_alloc_last ((w.alloc (.cells (bvs l).toArray 36 (0, 0))).alloc (.cells #[.int .i64 0, .string ⟨#[]⟩, .int .i64 0, .string ⟨#[]⟩, .int .i64 0, .string ⟨#[]⟩, .int .i64 0, .string ⟨#[]⟩] 29 (0, 0))) (.cells #[.int .i64 0, .string ⟨#[]⟩, .int .i64 0, .string ⟨#[]⟩, .int .i64 0, .string ⟨#[]⟩, .int .i64 0, .string ⟨#[]⟩] 29 (0, 0))
  rw [show ((w.alloc (.cells (bvs l).toArray 36 (0, 0))).alloc (.cells #[.int .i64 0, .string ⟨#[]⟩, .int .i64 0, .string ⟨#[]⟩, .int .i64 0, .string ⟨#[]⟩, .int .i64 0, .string ⟨#[]⟩] 29 (0, 0))).heap.size = w.heap.size + 1 + 1 by simp] at hP1
  have hg1 := heap_keep hg0 (((Below.refl (w.alloc (.cells (bvs l).toArray 36 (0, 0))).heap.size (w.alloc (.cells (bvs l).toArray 36 (0, 0)))).alloc (Nat.le_refl _) (.cells #[.int .i64 0, .string ⟨#[]⟩, .int .i64 0, .string ⟨#[]⟩, .int .i64 0, .string ⟨#[]⟩, .int .i64 0, .string ⟨#[]⟩] 29 (0, 0))).alloc (by simp) (.cells #[.int .i64 0, .string ⟨#[]⟩, .int .i64 0, .string ⟨#[]⟩, .int .i64 0, .string ⟨#[]⟩, .int .i64 0, .string ⟨#[]⟩] 29 (0, 0)))
  have hT2 := heap_keep hT1 ((Below.refl _ _).alloc (Nat.le_refl _) (.cells #[.int .i64 0, .string ⟨#[]⟩, .int .i64 0, .string ⟨#[]⟩, .int .i64 0, .string ⟨#[]⟩, .int .i64 0, .string ⟨#[]⟩] 29 (0, 0)))
  have hB : Below w.heap.size w (((w.alloc (.cells (bvs l).toArray 36 (0, 0))).alloc (.cells #[.int .i64 0, .string ⟨#[]⟩, .int .i64 0, .string ⟨#[]⟩, .int .i64 0, .string ⟨#[]⟩, .int .i64 0, .string ⟨#[]⟩] 29 (0, 0))).alloc (.cells #[.int .i64 0, .string ⟨#[]⟩, .int .i64 0, .string ⟨#[]⟩, .int .i64 0, .string ⟨#[]⟩, .int .i64 0, .string ⟨#[]⟩] 29 (0, 0))) := (((Below.refl _ _).alloc (Nat.le_refl _) _).alloc (by simp) _).alloc (by simp; omega) _
  have hs : (((w.alloc (.cells (bvs l).toArray 36 (0, 0))).alloc (.cells #[.int .i64 0, .string ⟨#[]⟩, .int .i64 0, .string ⟨#[]⟩, .int .i64 0, .string ⟨#[]⟩, .int .i64 0, .string ⟨#[]⟩] 29 (0, 0))).alloc (.cells #[.int .i64 0, .string ⟨#[]⟩, .int .i64 0, .string ⟨#[]⟩, .int .i64 0, .string ⟨#[]⟩, .int .i64 0, .string ⟨#[]⟩] 29 (0, 0))).heap.size = w.heap.size + 3 := by simp
  revert hg1 hT2 hP1 hB hs
  clear hg0 hT1
  generalize ((w.alloc (.cells (bvs l).toArray 36 (0, 0))).alloc (.cells #[.int .i64 0, .string ⟨#[]⟩, .int .i64 0, .string ⟨#[]⟩, .int .i64 0, .string ⟨#[]⟩, .int .i64 0, .string ⟨#[]⟩] 29 (0, 0))).alloc (.cells #[.int .i64 0, .string ⟨#[]⟩, .int .i64 0, .string ⟨#[]⟩, .int .i64 0, .string ⟨#[]⟩, .int .i64 0, .string ⟨#[]⟩] 29 (0, 0)) = w1
  generalize hp4 : w.heap.size + 1 + 1 = p4
  intro hP1 hg1 hT2 hB hs
  have HG1 := Lib.hid hg1
  have HT1 := Lib.hid hT2
  have HP1 := Lib.hid hP1
  have HB1 := Lib.hid hB
  have HP4 : Hid (p4 = w.heap.size + 2) := hp4.symm
  have HLT : Hid (p4 < w1.heap.size) := (Array.getElem?_eq_some_iff.1 hP1).1
  clear hg1 hT2 hP1 hB hs hp4
  go_wp2
  go_loopw [3, 5, 6] (fun b i _ wr => ∃ j : Nat, j ≤ 4 ∧ i = .int .i64 j ∧ b = .bool false ∧ Hid (wr.heap[p4]? = some (.cells (mixA m0 m1 m2 m3 t0 t1 t2 t3 j) 29 (0, 0))) ∧ Hid (Below p4 w1 wr) ∧ Hid (∀ i, i < j → dzE l i ≤ 29)) (fun _ i _ _ => (4 - intOf i).toNat)
  case atStart => exact ⟨0, by omega, by rfl, rfl, HP1, Lib.hid (Below.refl _ _), Lib.hid (fun i h => by omega)⟩
  case round =>
    obtain ⟨j, hj, rfl, rfl, HP, HB, HSM⟩ := hrel
    have HTT := Lib.hid ((HB.out.block (w.heap.size + 1) (by have := HP4.out; omega)).trans HT1.out)
    have HGG := Lib.hid ((HB.out.block w.heap.size (by have := HP4.out; omega)).trans HG1.out)
    have HBF := Lib.hid (HB1.out.trans (HB.out.mono (by have := HP4.out; omega)))
    by_cases hj4 : j = 4
    · subst hj4
      have hes : rdEs l = [((m0 : Int), t0), ((m1 : Int), t1), ((m2 : Int), t2), ((m3 : Int), t3)] := by
        obtain ⟨a0, a1, a2, a3⟩ := HM.out
        obtain ⟨b0, b1, b2, b3⟩ := HT.out
        unfold rdEs; rw [a0, a1, a2, a3, b0, b1, b2, b3]
      have hsz : rdSz l = true := by unfold rdSz; exact decide_eq_true ⟨HSM.out 0 (by decide), HSM.out 1 (by decide), HSM.out 2 (by decide), HSM.out 3 (by decide)⟩
      have hdr : drB l = (entsOk (rdEs l) && decide (dwS (rdEs l) = l)) := by
        unfold drB; rw [hsz, Bool.true_and]
        cases h : entsOk (rdEs l) with
        | true => unfold dwS; rw [h]; rfl
        | false => rfl
      have hs4 : ∀ i, i < 4 → (eAt (entsL (m0 : Int) (m1 : Int) (m2 : Int) (m3 : Int) t0 t1 t2 t3) i).2.size ≤ 1000 := by
        have key : ∀ i, dzE l i ≤ 29 → (dtE l i).size ≤ 1000 := fun i h => by
          show ((l.drop (32 * i + 3)).take (dzE l i)).toArray.size ≤ 1000
          simp only [List.size_toArray, List.length_take]; omega
        intro i hi
        have : i = 0 ∨ i = 1 ∨ i = 2 ∨ i = 3 := by omega
        rcases this with rfl | rfl | rfl | rfl
        · show t0.size ≤ 1000; rw [HT.out.1]; exact key 0 (HSM.out 0 (by decide))
        · show t1.size ≤ 1000; rw [HT.out.2.1]; exact key 1 (HSM.out 1 (by decide))
        · show t2.size ≤ 1000; rw [HT.out.2.2.1]; exact key 2 (HSM.out 2 (by decide))
        · show t3.size ≤ 1000; rw [HT.out.2.2.2]; exact key 3 (HSM.out 3 (by decide))
      have HW := Lib.hid (rwrite06_any (m0 : Int) (m1 : Int) (m2 : Int) (m3 : Int) t0 t1 t2 t3 wr hs4)
      unfold entsL at HW
      rw [← hes] at HW
      have hml : (dwS (rdEs l)).length = 128 := by
        unfold dwS
        cases h : entsOk (rdEs l) with
        | true => exact dw_len _ h
        | false => simp
      obtain ⟨m, hm⟩ : ∃ m, m = dwS (rdEs l) := ⟨_, rfl⟩
      obtain ⟨me, hme⟩ : ∃ me, me = entsOk (rdEs l) := ⟨_, rfl⟩
      rw [← hm, ← hme] at HW
      rw [← hm, ← hme] at hdr
      rw [← hm] at hml
      have HMS : Hid ((bvs m).toArray.size = 128) := by unfold Hid; rw [secV_size, hml]
      have heq : ∀ W : World, (Op.equalIn 10000 36 (.agg (bvs m).toArray) (.agg (bvs l).toArray)).run Try.prog W = .ok (decide (m = l)) W := fun W => rd_equal_sector W m l hml HL.out
      have HDR := Lib.hid hdr
      have HCS : Hid ((mixA m0 m1 m2 m3 t0 t1 t2 t3 4).size = 8) := rfl
      have HC1 : Hid ((mixA m0 m1 m2 m3 t0 t1 t2 t3 4).all (·.oneCell') = true) := by unfold Hid; simp [mixA, Value.oneCell']
      clear hes hsz hdr hml hm hme hs4
      unfold secV entsV at HW
      go_upto_region 10 with (first
        | (refine wpList_load_row rfl 29 (.tmp 4) rfl p4 rfl _ _ _ _ HP.out Try.underlying29 rfl (by rw [HCS.out]; exact size_rents) ?_)
        | (go_at_call 16; go_must (refine HW.out.mono ?_; rintro e w8 ⟨rfl, hb8⟩; have HB8 := Lib.hid hb8; clear hb8))
        | (refine wpList_store_row rfl 36 (.tmp 7) (.tmp 51) rfl w8.heap.size zArr (bvs m).toArray 36 rfl rfl (heap_alloc_last _ _) (by rw [HMS.out]; exact size_arr) (by rw [HMS.out, zArr_size]) (sec_one _) ?_))
      rw [World.setRow_alloc_new]
      have hS := heap_alloc_last w8 (.cells (bvs m).toArray 36 (0, 0))
      have hb9 : Below wr.heap.size wr (w8.alloc (.cells (bvs m).toArray 36 (0, 0))) := HB8.out.alloc HB8.out.size _
      have hT9 := heap_keep HTT.out hb9
      have hG9 := heap_keep HGG.out hb9
      have hP9 := heap_keep HP.out hb9
      have hB9 := bnext HBF.out hb9
      clear hb9 HW HB8
      revert hS hT9 hG9 hP9 hB9
      generalize w8.alloc (.cells (bvs m).toArray 36 (0, 0)) = w9
      generalize w8.heap.size = p10
      intro hS hT9 hG9 hP9 hB9
      have HS := Lib.hid hS
      have HT9 := Lib.hid hT9
      have HG9 := Lib.hid hG9
      have HP9 := Lib.hid hP9
      have HB9 := Lib.hid hB9
      clear hS hT9 hG9 hP9 hB9
      cases me with
      | false =>
        have HNO : Hid (drB l = false) := HDR.out
        clear HDR
        go_wp2_with (first
          | (refine wpList_build_at rfl 29 _ rfl [] (by simp) zCells built_rents ?_)
          | (refine wpList_store_row rfl 29 (.tmp 2) (.tmp 60) rfl (w.heap.size + 1) _ zCells 29 rfl rfl HT9.out size_rents rfl (by simp [zCells, Value.oneCell']) ?_))
        exact rread06_end HT9.out rfl (dr_no HNO.out).1.symm HNO.out.symm HB9.out rfl rfl rfl
      | true =>
        rw [Bool.true_and] at HDR
        go_wp2_with (first
          | (refine wpList_load_row_g rfl 36 (.tmp 7) rfl p10 rfl _ _ _ _ HS.out Try.underlying36 rfl (by rw [HMS.out]; exact size_arr) ?_)
          | (refine wpList_load_row_g rfl 36 (.tmp 1) rfl w.heap.size rfl _ _ _ _ HG9.out Try.underlying36 rfl (by rw [HSZ.out]; exact size_arr) ?_)
          | (refine wpList_build_at rfl 29 _ rfl [] (by simp) zCells built_rents ?_)
          | (refine wpList_store_row rfl 29 (.tmp 2) (.tmp 60) rfl (w.heap.size + 1) _ zCells 29 rfl rfl HT9.out size_rents rfl (by simp [zCells, Value.oneCell']) ?_)
          | (refine wpList_load_row rfl 29 (.tmp 4) rfl p4 rfl _ _ _ _ HP9.out Try.underlying29 rfl (by rw [HCS.out]; exact size_rents) ?_)
          | (refine wpList_store_row rfl 29 (.tmp 2) (.tmp 61) rfl (w.heap.size + 1) _ (mixA m0 m1 m2 m3 t0 t1 t2 t3 4) 29 rfl rfl HT9.out (by rw [HCS.out]; exact size_rents) rfl HC1.out ?_))
        · rename_i hq
          have HNO : drB l = false := by rw [HDR.out]; simpa using hq
          exact rread06_end HT9.out rfl (dr_no HNO).1.symm HNO.symm HB9.out rfl rfl rfl
        · rename_i hq
          have HYES : drB l = true := by rw [HDR.out]; simpa using hq
          refine rread06_end HT9.out HCS.out ?_ HYES.symm HB9.out rfl rfl rfl
          rw [(dr_yes HYES).1, ← HM.out.1, ← HM.out.2.1, ← HM.out.2.2.1, ← HM.out.2.2.2, ← HT.out.1, ← HT.out.2.1, ← HT.out.2.2.1, ← HT.out.2.2.2]
    · have hjc : j = 0 ∨ j = 1 ∨ j = 2 ∨ j = 3 := by omega
      rcases hjc with rfl | rfl | rfl | rfl
      · obtain ⟨x0, hx0⟩ : ∃ x, x = (l.getD 0 0).toNat := ⟨_, rfl⟩
        obtain ⟨x1, hx1⟩ : ∃ x, x = (l.getD 1 0).toNat := ⟨_, rfl⟩
        obtain ⟨z, hzz⟩ : ∃ z, z = dzE l 0 := ⟨_, rfl⟩
        have hz256 : z < 256 := rz_of hzz
        have h0256 : x0 < 256 := by rw [hx0]; exact UInt8.toNat_lt _
        have h1256 : x1 < 256 := by rw [hx1]; exact UInt8.toNat_lt _
        have c0 : wr.cell? ⟨w.heap.size, 0, none⟩ = some (.int .u8 (x0 : Int)) := by rw [cell_row HGG.out, List.getElem?_toArray, bvs_get l 0 (by rw [HL.out]; decide), ← hx0]
        have c1 : wr.cell? ⟨w.heap.size, 1, none⟩ = some (.int .u8 (x1 : Int)) := by rw [cell_row HGG.out, List.getElem?_toArray, bvs_get l 1 (by rw [HL.out]; decide), ← hx1]
        have c2 : wr.cell? ⟨w.heap.size, 2, none⟩ = some (.int .u8 (z : Int)) := by rw [cell_row HGG.out, List.getElem?_toArray, bvs_get l 2 (by rw [HL.out]; decide), hzz]; rfl
        have HMX : Hid ((m0 : Int) = (x0 : Int) + 256 * (x1 : Int)) := by unfold Hid; rw [HM.out.1, hx0, hx1]; exact dmE_eq HL.out 0 (by decide)
        have HZZ := Lib.hid hzz
        have hw1 : wrap64 (z : Int) = (z : Int) := by rw [← i64_w]; exact IntWalk.i64_in _ (by omega)
        clear hx0 hx1 hzz
        by_cases hz29 : z ≤ 29
        · have hlen : ((l.drop 3).take z).length = z := by simp only [List.length_take, List.length_drop, HL.out]; omega
          have htt : t0 = ⟨((l.drop 3).take z).toArray⟩ := by rw [HT.out.1, HZZ.out]; rfl
          have hcv := run_convert_bytes_back (P := Try.prog) wr.drew 45 9 5 ⟨w.heap.size, 3, none⟩ 125 ((l.drop 3).take z) Try.underlying45 Try.underlying5 Try.underlying9 (fun i hi => by
            have hi' : i < z := by omega
            rw [add_at, show wr.drew.cell? _ = wr.cell? _ from rfl, cell_row HGG.out, List.getElem?_toArray, bvs_get l _ (by rw [HL.out]; omega)]
            congr 3
            rw [List.getD_eq_getElem?_getD, List.getElem_take, List.getElem_drop, List.getElem?_eq_getElem (by rw [HL.out]; omega)]
            rfl)
          rw [hlen, ← htt] at hcv
          have d0 : wr.cell? ⟨p4, 2 * 0, none⟩ = some (.int .i64 0) := by rw [cell_row HP.out]; rfl
          have dd1 : wr.cell? ⟨p4, 2 * 0 + 1, none⟩ = some (.string ⟨#[]⟩) := by rw [cell_row HP.out]; rfl
          have e0 : wr.frozen? ⟨p4, 2 * 0, none⟩ = false := free_row HP.out _
          have e1 : wr.frozen? ⟨p4, 2 * 0 + 1, none⟩ = false := free_row HP.out _
          simp only [Nat.reduceMul, Nat.reduceAdd] at d0 dd1 e0 e1
          have hst : (wr.setCell ⟨p4, 2 * 0, none⟩ (.int .i64 (m0 : Int))).setCell ⟨p4, 2 * 0 + 1, none⟩ (.string t0) = wr.setRow p4 (mixA m0 m1 m2 m3 t0 t1 t2 t3 (0 + 1)) := by
            rw [setCell_row HP.out, setRow_setCell HP.out]; rfl
          rw [HMX.out] at hst
          simp only [Nat.reduceMul, Nat.reduceAdd] at hst
          have HST := Lib.hid hst
          have HSM' : Hid (∀ i, i < 0 + 1 → dzE l i ≤ 29) := fun i hi => by
            by_cases h : i = 0
            · rw [h, ← HZZ.out]; exact hz29
            · exact HSM.out i (by omega)
          have hz29' : (z : Int) ≤ 29 := by omega
          have hz0 : (0 : Int) ≤ (z : Int) := by omega
          clear hst hlen htt
          go_upto_region 8 with fail
          have wa0 : IntKind.i64.wrap 0 = 0 := by decide
          have wa1 : IntKind.i64.wrap 1 = 1 := by decide
          have wa3 : IntKind.i64.wrap 3 = 3 := by decide
          have wz : IntKind.i64.wrap (3 + (z : Int)) = 3 + (z : Int) := IntWalk.i64_in _ (by omega)
          have wx : IntKind.i64.wrap (256 * (x1 : Int)) = 256 * (x1 : Int) := IntWalk.i64_in _ (by omega)
          have wy : IntKind.i64.wrap ((x0 : Int) + 256 * (x1 : Int)) = (x0 : Int) + 256 * (x1 : Int) := IntWalk.i64_in _ (by omega)
          have wv0 : IntKind.i64.wrap (x0 : Int) = (x0 : Int) := IntWalk.i64_in _ (by omega)
          have wv1 : IntKind.i64.wrap (x1 : Int) = (x1 : Int) := IntWalk.i64_in _ (by omega)
          have wt : (3 + (z : Int)).toNat = 3 + z := by omega
          have hb1 : (0 : Int) ≤ 3 + (z : Int) := by omega
          have hb2 : (3 : Int) ≤ 3 + (z : Int) := by omega
          have hb3 : 3 + (z : Int) ≤ 128 := by omega
          go_still_tail 26, (by kernel_rfl)
          change wpList _ _ _ _ _ wr.drew
          go_wp2
          rw [HST.out, ← HMX.out]
          refine ⟨⟨0 + 1, by omega, by rfl, rfl, Lib.hid (setRow_heap wr _ _ _ _ _ HP.out), Lib.hid ?_, HSM'⟩, by simp [intOf]⟩
          refine (HB.out.trans (c := wr.setRow p4 (mixA m0 m1 m2 m3 t0 t1 t2 t3 (0 + 1))) ?_).drew
          exact ⟨rfl, rfl, rfl, by rw [setRow_size]; exact Nat.le_refl _, fun k hk => setRow_other _ _ _ _ (by omega)⟩
        · have hno : drB l = false := dr_sz (j := 0) (by decide) (by have := HZZ.out; omega)
          have HNO := Lib.hid hno
          have hzz : ¬ ((z : Int) ≤ 29) := by omega
          clear hno hz29
          go_wp2_with (first
            | (refine wpList_build_at rfl 29 _ rfl [] (by simp) zCells built_rents ?_)
            | (refine wpList_store_row rfl 29 (.tmp 2) (.tmp 21) rfl (w.heap.size + 1) _ zCells 29 rfl rfl HTT.out size_rents rfl (by simp [zCells, Value.oneCell']) ?_))
          exact rread06_end HTT.out rfl (dr_no HNO.out).1.symm HNO.out.symm HBF.out rfl rfl rfl
      · obtain ⟨x0, hx0⟩ : ∃ x, x = (l.getD 32 0).toNat := ⟨_, rfl⟩
        obtain ⟨x1, hx1⟩ : ∃ x, x = (l.getD 33 0).toNat := ⟨_, rfl⟩
        obtain ⟨z, hzz⟩ : ∃ z, z = dzE l 1 := ⟨_, rfl⟩
        have hz256 : z < 256 := rz_of hzz
        have h0256 : x0 < 256 := by rw [hx0]; exact UInt8.toNat_lt _
        have h1256 : x1 < 256 := by rw [hx1]; exact UInt8.toNat_lt _
        have c0 : wr.cell? ⟨w.heap.size, 32, none⟩ = some (.int .u8 (x0 : Int)) := by rw [cell_row HGG.out, List.getElem?_toArray, bvs_get l 32 (by rw [HL.out]; decide), ← hx0]
        have c1 : wr.cell? ⟨w.heap.size, 33, none⟩ = some (.int .u8 (x1 : Int)) := by rw [cell_row HGG.out, List.getElem?_toArray, bvs_get l 33 (by rw [HL.out]; decide), ← hx1]
        have c2 : wr.cell? ⟨w.heap.size, 34, none⟩ = some (.int .u8 (z : Int)) := by rw [cell_row HGG.out, List.getElem?_toArray, bvs_get l 34 (by rw [HL.out]; decide), hzz]; rfl
        have HMX : Hid ((m1 : Int) = (x0 : Int) + 256 * (x1 : Int)) := by unfold Hid; rw [HM.out.2.1, hx0, hx1]; exact dmE_eq HL.out 1 (by decide)
        have HZZ := Lib.hid hzz
        have hw1 : wrap64 (z : Int) = (z : Int) := by rw [← i64_w]; exact IntWalk.i64_in _ (by omega)
        clear hx0 hx1 hzz
        by_cases hz29 : z ≤ 29
        · have hlen : ((l.drop 35).take z).length = z := by simp only [List.length_take, List.length_drop, HL.out]; omega
          have htt : t1 = ⟨((l.drop 35).take z).toArray⟩ := by rw [HT.out.2.1, HZZ.out]; rfl
          have hcv := run_convert_bytes_back (P := Try.prog) wr.drew 45 9 5 ⟨w.heap.size, 35, none⟩ 93 ((l.drop 35).take z) Try.underlying45 Try.underlying5 Try.underlying9 (fun i hi => by
            have hi' : i < z := by omega
            rw [add_at, show wr.drew.cell? _ = wr.cell? _ from rfl, cell_row HGG.out, List.getElem?_toArray, bvs_get l _ (by rw [HL.out]; omega)]
            congr 3
            rw [List.getD_eq_getElem?_getD, List.getElem_take, List.getElem_drop, List.getElem?_eq_getElem (by rw [HL.out]; omega)]
            rfl)
          rw [hlen, ← htt] at hcv
          have d0 : wr.cell? ⟨p4, 2 * 1, none⟩ = some (.int .i64 0) := by rw [cell_row HP.out]; rfl
          have dd1 : wr.cell? ⟨p4, 2 * 1 + 1, none⟩ = some (.string ⟨#[]⟩) := by rw [cell_row HP.out]; rfl
          have e0 : wr.frozen? ⟨p4, 2 * 1, none⟩ = false := free_row HP.out _
          have e1 : wr.frozen? ⟨p4, 2 * 1 + 1, none⟩ = false := free_row HP.out _
          simp only [Nat.reduceMul, Nat.reduceAdd] at d0 dd1 e0 e1
          have hst : (wr.setCell ⟨p4, 2 * 1, none⟩ (.int .i64 (m1 : Int))).setCell ⟨p4, 2 * 1 + 1, none⟩ (.string t1) = wr.setRow p4 (mixA m0 m1 m2 m3 t0 t1 t2 t3 (1 + 1)) := by
            rw [setCell_row HP.out, setRow_setCell HP.out]; rfl
          rw [HMX.out] at hst
          simp only [Nat.reduceMul, Nat.reduceAdd] at hst
          have HST := Lib.hid hst
          have HSM' : Hid (∀ i, i < 1 + 1 → dzE l i ≤ 29) := fun i hi => by
            by_cases h : i = 1
            · rw [h, ← HZZ.out]; exact hz29
            · exact HSM.out i (by omega)
          have hz29' : (z : Int) ≤ 29 := by omega
          have hz0 : (0 : Int) ≤ (z : Int) := by omega
          clear hst hlen htt
          go_upto_region 8 with fail
          have wa0 : IntKind.i64.wrap 32 = 32 := by decide
          have wa1 : IntKind.i64.wrap 33 = 33 := by decide
          have wa3 : IntKind.i64.wrap 35 = 35 := by decide
          have wz : IntKind.i64.wrap (35 + (z : Int)) = 35 + (z : Int) := IntWalk.i64_in _ (by omega)
          have wx : IntKind.i64.wrap (256 * (x1 : Int)) = 256 * (x1 : Int) := IntWalk.i64_in _ (by omega)
          have wy : IntKind.i64.wrap ((x0 : Int) + 256 * (x1 : Int)) = (x0 : Int) + 256 * (x1 : Int) := IntWalk.i64_in _ (by omega)
          have wv0 : IntKind.i64.wrap (x0 : Int) = (x0 : Int) := IntWalk.i64_in _ (by omega)
          have wv1 : IntKind.i64.wrap (x1 : Int) = (x1 : Int) := IntWalk.i64_in _ (by omega)
          have wt : (35 + (z : Int)).toNat = 35 + z := by omega
          have hb1 : (0 : Int) ≤ 35 + (z : Int) := by omega
          have hb2 : (35 : Int) ≤ 35 + (z : Int) := by omega
          have hb3 : 35 + (z : Int) ≤ 128 := by omega
          go_still_tail 26, (by kernel_rfl)
          change wpList _ _ _ _ _ wr.drew
          go_wp2
          rw [HST.out, ← HMX.out]
          refine ⟨⟨1 + 1, by omega, by rfl, rfl, Lib.hid (setRow_heap wr _ _ _ _ _ HP.out), Lib.hid ?_, HSM'⟩, by simp [intOf]⟩
          refine (HB.out.trans (c := wr.setRow p4 (mixA m0 m1 m2 m3 t0 t1 t2 t3 (1 + 1))) ?_).drew
          exact ⟨rfl, rfl, rfl, by rw [setRow_size]; exact Nat.le_refl _, fun k hk => setRow_other _ _ _ _ (by omega)⟩
        · have hno : drB l = false := dr_sz (j := 1) (by decide) (by have := HZZ.out; omega)
          have HNO := Lib.hid hno
          have hzz : ¬ ((z : Int) ≤ 29) := by omega
          clear hno hz29
          go_wp2_with (first
            | (refine wpList_build_at rfl 29 _ rfl [] (by simp) zCells built_rents ?_)
            | (refine wpList_store_row rfl 29 (.tmp 2) (.tmp 21) rfl (w.heap.size + 1) _ zCells 29 rfl rfl HTT.out size_rents rfl (by simp [zCells, Value.oneCell']) ?_))
          exact rread06_end HTT.out rfl (dr_no HNO.out).1.symm HNO.out.symm HBF.out rfl rfl rfl
      · obtain ⟨x0, hx0⟩ : ∃ x, x = (l.getD 64 0).toNat := ⟨_, rfl⟩
        obtain ⟨x1, hx1⟩ : ∃ x, x = (l.getD 65 0).toNat := ⟨_, rfl⟩
        obtain ⟨z, hzz⟩ : ∃ z, z = dzE l 2 := ⟨_, rfl⟩
        have hz256 : z < 256 := rz_of hzz
        have h0256 : x0 < 256 := by rw [hx0]; exact UInt8.toNat_lt _
        have h1256 : x1 < 256 := by rw [hx1]; exact UInt8.toNat_lt _
        have c0 : wr.cell? ⟨w.heap.size, 64, none⟩ = some (.int .u8 (x0 : Int)) := by rw [cell_row HGG.out, List.getElem?_toArray, bvs_get l 64 (by rw [HL.out]; decide), ← hx0]
        have c1 : wr.cell? ⟨w.heap.size, 65, none⟩ = some (.int .u8 (x1 : Int)) := by rw [cell_row HGG.out, List.getElem?_toArray, bvs_get l 65 (by rw [HL.out]; decide), ← hx1]
        have c2 : wr.cell? ⟨w.heap.size, 66, none⟩ = some (.int .u8 (z : Int)) := by rw [cell_row HGG.out, List.getElem?_toArray, bvs_get l 66 (by rw [HL.out]; decide), hzz]; rfl
        have HMX : Hid ((m2 : Int) = (x0 : Int) + 256 * (x1 : Int)) := by unfold Hid; rw [HM.out.2.2.1, hx0, hx1]; exact dmE_eq HL.out 2 (by decide)
        have HZZ := Lib.hid hzz
        have hw1 : wrap64 (z : Int) = (z : Int) := by rw [← i64_w]; exact IntWalk.i64_in _ (by omega)
        clear hx0 hx1 hzz
        by_cases hz29 : z ≤ 29
        · have hlen : ((l.drop 67).take z).length = z := by simp only [List.length_take, List.length_drop, HL.out]; omega
          have htt : t2 = ⟨((l.drop 67).take z).toArray⟩ := by rw [HT.out.2.2.1, HZZ.out]; rfl
          have hcv := run_convert_bytes_back (P := Try.prog) wr.drew 45 9 5 ⟨w.heap.size, 67, none⟩ 61 ((l.drop 67).take z) Try.underlying45 Try.underlying5 Try.underlying9 (fun i hi => by
            have hi' : i < z := by omega
            rw [add_at, show wr.drew.cell? _ = wr.cell? _ from rfl, cell_row HGG.out, List.getElem?_toArray, bvs_get l _ (by rw [HL.out]; omega)]
            congr 3
            rw [List.getD_eq_getElem?_getD, List.getElem_take, List.getElem_drop, List.getElem?_eq_getElem (by rw [HL.out]; omega)]
            rfl)
          rw [hlen, ← htt] at hcv
          have d0 : wr.cell? ⟨p4, 2 * 2, none⟩ = some (.int .i64 0) := by rw [cell_row HP.out]; rfl
          have dd1 : wr.cell? ⟨p4, 2 * 2 + 1, none⟩ = some (.string ⟨#[]⟩) := by rw [cell_row HP.out]; rfl
          have e0 : wr.frozen? ⟨p4, 2 * 2, none⟩ = false := free_row HP.out _
          have e1 : wr.frozen? ⟨p4, 2 * 2 + 1, none⟩ = false := free_row HP.out _
          simp only [Nat.reduceMul, Nat.reduceAdd] at d0 dd1 e0 e1
          have hst : (wr.setCell ⟨p4, 2 * 2, none⟩ (.int .i64 (m2 : Int))).setCell ⟨p4, 2 * 2 + 1, none⟩ (.string t2) = wr.setRow p4 (mixA m0 m1 m2 m3 t0 t1 t2 t3 (2 + 1)) := by
            rw [setCell_row HP.out, setRow_setCell HP.out]; rfl
          rw [HMX.out] at hst
          simp only [Nat.reduceMul, Nat.reduceAdd] at hst
          have HST := Lib.hid hst
          have HSM' : Hid (∀ i, i < 2 + 1 → dzE l i ≤ 29) := fun i hi => by
            by_cases h : i = 2
            · rw [h, ← HZZ.out]; exact hz29
            · exact HSM.out i (by omega)
          have hz29' : (z : Int) ≤ 29 := by omega
          have hz0 : (0 : Int) ≤ (z : Int) := by omega
          clear hst hlen htt
          go_upto_region 8 with fail
          have wa0 : IntKind.i64.wrap 64 = 64 := by decide
          have wa1 : IntKind.i64.wrap 65 = 65 := by decide
          have wa3 : IntKind.i64.wrap 67 = 67 := by decide
          have wz : IntKind.i64.wrap (67 + (z : Int)) = 67 + (z : Int) := IntWalk.i64_in _ (by omega)
          have wx : IntKind.i64.wrap (256 * (x1 : Int)) = 256 * (x1 : Int) := IntWalk.i64_in _ (by omega)
          have wy : IntKind.i64.wrap ((x0 : Int) + 256 * (x1 : Int)) = (x0 : Int) + 256 * (x1 : Int) := IntWalk.i64_in _ (by omega)
          have wv0 : IntKind.i64.wrap (x0 : Int) = (x0 : Int) := IntWalk.i64_in _ (by omega)
          have wv1 : IntKind.i64.wrap (x1 : Int) = (x1 : Int) := IntWalk.i64_in _ (by omega)
          have wt : (67 + (z : Int)).toNat = 67 + z := by omega
          have hb1 : (0 : Int) ≤ 67 + (z : Int) := by omega
          have hb2 : (67 : Int) ≤ 67 + (z : Int) := by omega
          have hb3 : 67 + (z : Int) ≤ 128 := by omega
          go_still_tail 26, (by kernel_rfl)
          change wpList _ _ _ _ _ wr.drew
          go_wp2
          rw [HST.out, ← HMX.out]
          refine ⟨⟨2 + 1, by omega, by rfl, rfl, Lib.hid (setRow_heap wr _ _ _ _ _ HP.out), Lib.hid ?_, HSM'⟩, by simp [intOf]⟩
          refine (HB.out.trans (c := wr.setRow p4 (mixA m0 m1 m2 m3 t0 t1 t2 t3 (2 + 1))) ?_).drew
          exact ⟨rfl, rfl, rfl, by rw [setRow_size]; exact Nat.le_refl _, fun k hk => setRow_other _ _ _ _ (by omega)⟩
        · have hno : drB l = false := dr_sz (j := 2) (by decide) (by have := HZZ.out; omega)
          have HNO := Lib.hid hno
          have hzz : ¬ ((z : Int) ≤ 29) := by omega
          clear hno hz29
          go_wp2_with (first
            | (refine wpList_build_at rfl 29 _ rfl [] (by simp) zCells built_rents ?_)
            | (refine wpList_store_row rfl 29 (.tmp 2) (.tmp 21) rfl (w.heap.size + 1) _ zCells 29 rfl rfl HTT.out size_rents rfl (by simp [zCells, Value.oneCell']) ?_))
          exact rread06_end HTT.out rfl (dr_no HNO.out).1.symm HNO.out.symm HBF.out rfl rfl rfl
      · obtain ⟨x0, hx0⟩ : ∃ x, x = (l.getD 96 0).toNat := ⟨_, rfl⟩
        obtain ⟨x1, hx1⟩ : ∃ x, x = (l.getD 97 0).toNat := ⟨_, rfl⟩
        obtain ⟨z, hzz⟩ : ∃ z, z = dzE l 3 := ⟨_, rfl⟩
        have hz256 : z < 256 := rz_of hzz
        have h0256 : x0 < 256 := by rw [hx0]; exact UInt8.toNat_lt _
        have h1256 : x1 < 256 := by rw [hx1]; exact UInt8.toNat_lt _
        have c0 : wr.cell? ⟨w.heap.size, 96, none⟩ = some (.int .u8 (x0 : Int)) := by rw [cell_row HGG.out, List.getElem?_toArray, bvs_get l 96 (by rw [HL.out]; decide), ← hx0]
        have c1 : wr.cell? ⟨w.heap.size, 97, none⟩ = some (.int .u8 (x1 : Int)) := by rw [cell_row HGG.out, List.getElem?_toArray, bvs_get l 97 (by rw [HL.out]; decide), ← hx1]
        have c2 : wr.cell? ⟨w.heap.size, 98, none⟩ = some (.int .u8 (z : Int)) := by rw [cell_row HGG.out, List.getElem?_toArray, bvs_get l 98 (by rw [HL.out]; decide), hzz]; rfl
        have HMX : Hid ((m3 : Int) = (x0 : Int) + 256 * (x1 : Int)) := by unfold Hid; rw [HM.out.2.2.2, hx0, hx1]; exact dmE_eq HL.out 3 (by decide)
        have HZZ := Lib.hid hzz
        have hw1 : wrap64 (z : Int) = (z : Int) := by rw [← i64_w]; exact IntWalk.i64_in _ (by omega)
        clear hx0 hx1 hzz
        by_cases hz29 : z ≤ 29
        · have hlen : ((l.drop 99).take z).length = z := by simp only [List.length_take, List.length_drop, HL.out]; omega
          have htt : t3 = ⟨((l.drop 99).take z).toArray⟩ := by rw [HT.out.2.2.2, HZZ.out]; rfl
          have hcv := run_convert_bytes_back (P := Try.prog) wr.drew 45 9 5 ⟨w.heap.size, 99, none⟩ 29 ((l.drop 99).take z) Try.underlying45 Try.underlying5 Try.underlying9 (fun i hi => by
            have hi' : i < z := by omega
            rw [add_at, show wr.drew.cell? _ = wr.cell? _ from rfl, cell_row HGG.out, List.getElem?_toArray, bvs_get l _ (by rw [HL.out]; omega)]
            congr 3
            rw [List.getD_eq_getElem?_getD, List.getElem_take, List.getElem_drop, List.getElem?_eq_getElem (by rw [HL.out]; omega)]
            rfl)
          rw [hlen, ← htt] at hcv
          have d0 : wr.cell? ⟨p4, 2 * 3, none⟩ = some (.int .i64 0) := by rw [cell_row HP.out]; rfl
          have dd1 : wr.cell? ⟨p4, 2 * 3 + 1, none⟩ = some (.string ⟨#[]⟩) := by rw [cell_row HP.out]; rfl
          have e0 : wr.frozen? ⟨p4, 2 * 3, none⟩ = false := free_row HP.out _
          have e1 : wr.frozen? ⟨p4, 2 * 3 + 1, none⟩ = false := free_row HP.out _
          simp only [Nat.reduceMul, Nat.reduceAdd] at d0 dd1 e0 e1
          have hst : (wr.setCell ⟨p4, 2 * 3, none⟩ (.int .i64 (m3 : Int))).setCell ⟨p4, 2 * 3 + 1, none⟩ (.string t3) = wr.setRow p4 (mixA m0 m1 m2 m3 t0 t1 t2 t3 (3 + 1)) := by
            rw [setCell_row HP.out, setRow_setCell HP.out]; rfl
          rw [HMX.out] at hst
          simp only [Nat.reduceMul, Nat.reduceAdd] at hst
          have HST := Lib.hid hst
          have HSM' : Hid (∀ i, i < 3 + 1 → dzE l i ≤ 29) := fun i hi => by
            by_cases h : i = 3
            · rw [h, ← HZZ.out]; exact hz29
            · exact HSM.out i (by omega)
          have hz29' : (z : Int) ≤ 29 := by omega
          have hz0 : (0 : Int) ≤ (z : Int) := by omega
          clear hst hlen htt
          go_upto_region 8 with fail
          have wa0 : IntKind.i64.wrap 96 = 96 := by decide
          have wa1 : IntKind.i64.wrap 97 = 97 := by decide
          have wa3 : IntKind.i64.wrap 99 = 99 := by decide
          have wz : IntKind.i64.wrap (99 + (z : Int)) = 99 + (z : Int) := IntWalk.i64_in _ (by omega)
          have wx : IntKind.i64.wrap (256 * (x1 : Int)) = 256 * (x1 : Int) := IntWalk.i64_in _ (by omega)
          have wy : IntKind.i64.wrap ((x0 : Int) + 256 * (x1 : Int)) = (x0 : Int) + 256 * (x1 : Int) := IntWalk.i64_in _ (by omega)
          have wv0 : IntKind.i64.wrap (x0 : Int) = (x0 : Int) := IntWalk.i64_in _ (by omega)
          have wv1 : IntKind.i64.wrap (x1 : Int) = (x1 : Int) := IntWalk.i64_in _ (by omega)
          have wt : (99 + (z : Int)).toNat = 99 + z := by omega
          have hb1 : (0 : Int) ≤ 99 + (z : Int) := by omega
          have hb2 : (99 : Int) ≤ 99 + (z : Int) := by omega
          have hb3 : 99 + (z : Int) ≤ 128 := by omega
          go_still_tail 26, (by kernel_rfl)
          change wpList _ _ _ _ _ wr.drew
          go_wp2
          rw [HST.out, ← HMX.out]
          refine ⟨⟨3 + 1, by omega, by rfl, rfl, Lib.hid (setRow_heap wr _ _ _ _ _ HP.out), Lib.hid ?_, HSM'⟩, by simp [intOf]⟩
          refine (HB.out.trans (c := wr.setRow p4 (mixA m0 m1 m2 m3 t0 t1 t2 t3 (3 + 1))) ?_).drew
          exact ⟨rfl, rfl, rfl, by rw [setRow_size]; exact Nat.le_refl _, fun k hk => setRow_other _ _ _ _ (by omega)⟩
        · have hno : drB l = false := dr_sz (j := 3) (by decide) (by have := HZZ.out; omega)
          have HNO := Lib.hid hno
          have hzz : ¬ ((z : Int) ≤ 29) := by omega
          clear hno hz29
          go_wp2_with (first
            | (refine wpList_build_at rfl 29 _ rfl [] (by simp) zCells built_rents ?_)
            | (refine wpList_store_row rfl 29 (.tmp 2) (.tmp 21) rfl (w.heap.size + 1) _ zCells 29 rfl rfl HTT.out size_rents rfl (by simp [zCells, Value.oneCell']) ?_))
          exact rread06_end HTT.out rfl (dr_no HNO.out).1.symm HNO.out.symm HBF.out rfl rfl rfl
end Go.Proofs.Ytcgfhpgjaibmhaa
