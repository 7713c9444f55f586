/-
  Codec: lists of records as sectors, and back: the reference's.
-/
import Derived.Test.YtlcbfpcabalgcaaCodMRecord
import Derived.Test.YtlcbfpcabalgcaaCodK
import Derived.Test.YtlcbfpcabalgcaaCodL
import Derived.Test.YtlcbfpcabalgcaaCodNRecord
namespace Go.Proofs.Ytlcbfpcabalgcaa
open Go.RowKit
set_option linter.unusedVariables false
set_option linter.unusedSimpArgs false
set_option linter.unnecessarySimpa false
theorem infoRRecord3 : (Try.prog.info? 90).map (fun i => (i.zero, i.size, i.bytes)) = some (some (.agg #[.int .u32 0, .int .u32 0, .int .i64 0, .int .i64 0]), 4, 24) := by kernel_rfl
theorem recordL_ok (x : Rcd) (hx : x.Ok) : ∀ y ∈ recordL x, FldOk y := by
  have w32 : ∀ n : Nat, n < 2 ^ 32 → I64 (n : Int) := fun n h => ⟨by omega, by omega⟩
  intro y hy
  simp only [recordL, List.mem_cons, List.not_mem_nil, or_false] at hy
  rcases hy with rfl | rfl | rfl | rfl
  · exact fld_mk _ _ (by decide) (w32 _ hx.num)
  · exact fld_mk _ _ (by decide) (w32 _ hx.ver)
  · exact fld_mk _ _ (by decide) hx.links
  · exact fld_mk _ _ (by decide) hx.kind
theorem recordAll_ok (L : List Rcd) (h : ∀ x ∈ L, x.Ok) : ∀ y ∈ recordAll L, FldOk y := by
  intro y hy
  unfold recordAll at hy
  obtain ⟨x, hx, hy⟩ := List.mem_flatMap.1 hy
  exact recordL_ok x (h x hx) y hy
theorem recordAll_n (L : List Rcd) : (recordAll L).length = 4 * L.length := by
  unfold recordAll
  rw [List.length_flatMap]
  have : (L.map fun x => (recordL x).length) = L.map fun _ => 4 := rfl
  rw [this, List.map_const', List.sum_replicate_nat]; omega
set_option maxRecDepth 10000 in
set_option maxHeartbeats 8000000 in
theorem rwriteRecords_any (L : List Rcd) (A : Option Addr) (c : Nat) (w : World) (hR : ReadAt w A Rcd.cells 4 L) (hok : ∀ x ∈ L, x.Ok) (hL : L.length ≤ 200) :
    Calls Try.prog 35 #[.slice A L.length c] w (RsS w 7 (recordsMay L && !fBad (recordAll L)) (fB (recordAll L))) := by
  have hb1 : Below w.heap.size w (w.alloc (.cells Try.zeroCells28 28 (0, 0))) := (Below.refl _ _).alloc (Nat.le_refl _) _
  have HT1 := Lib.hid (heap_alloc_last w (.cells Try.zeroCells28 28 (0, 0)))
  have HS1 := Lib.hid (show (w.alloc (.cells Try.zeroCells28 28 (0, 0))).heap.size = w.heap.size + 1 by simp)
  have HB1 := Lib.hid hb1
  have HR := Lib.hid (hR.below Rcd.cells_len hb1)
  have HOK := Lib.hid hok
  clear hb1 hR hok
  go_enter Try.func35, Try.ntmps35
  go_wp2
  revert HT1 HS1 HB1 HR
  generalize w.alloc (.cells Try.zeroCells28 28 (0, 0)) = w1
  intro HT1 HS1 HB1 HR
  go_loopw [4, 5] (fun vf i wr => ∃ k : Nat, k ≤ L.length ∧ i = .int .i64 (k : Int) ∧ Hid (wr.ownsRow w1.heap.size 148 2 vf (4 * k) (rowsOf fldF (recordAll (L.take k)))) ∧ Hid ((L.take k).all recordMay = true) ∧ Hid (Below w1.heap.size w1 wr)) (fun _ i _ => (L.length - intOf i).toNat)
  case atStart => exact ⟨0, by omega, rfl, Lib.hid (own_nilk _ _ _ _), Lib.hid rfl, Lib.hid (Below.refl _ _)⟩
  case round =>
    obtain ⟨k, hk, rfl, HO, HK, HB⟩ := hrel
    obtain ⟨sf, cf, rfl⟩ := own_slice1 HO.out
    have HTk := Lib.hid ((HB.out.block w.heap.size (by rw [HS1.out]; omega)).trans HT1.out)
    by_cases hlt : k < L.length
    · obtain ⟨x, hx⟩ : ∃ x, L[k]? = some x := ⟨_, List.getElem?_eq_getElem hlt⟩
      obtain ⟨b, o, rfl, hr⟩ := rows_at Rcd.cells_len HR.out hx
      have hbl : b < w1.heap.size := World.block_lt_of_cell? w1 ⟨b, o + k * 4 + 0, none⟩ (hr 0 _ rfl)
      have hr2 : wr.rangeAt b (o + k * 4) x.cells := fun j u hu => (HB.out.cell (p := ⟨b, o + k * 4 + j, none⟩) hbl).trans (hr j u hu)
      have hxo := HOK.out x (List.mem_of_getElem? hx)
      have HX := Lib.hid hx
      obtain ⟨y0, y1, y2, y3⟩ := x
      have e0 : wr.cell? ⟨b, o + k * 4, none⟩ = some (.int .u32 (y0 : Int)) := hr2 0 _ rfl
      have e1 : wr.cell? ⟨b, o + k * 4 + 1, none⟩ = some (.int .u32 (y1 : Int)) := hr2 1 _ rfl
      have e2 : wr.cell? ⟨b, o + k * 4 + 2, none⟩ = some (.int .i64 y2) := hr2 2 _ rfl
      have e3 : wr.cell? ⟨b, o + k * 4 + 3, none⟩ = some (.int .i64 y3) := hr2 3 _ rfl
      have hw0 : IntKind.i64.wrap (y0 : Int) = (y0 : Int) := IntWalk.i64_in _ (by have := hxo.num; dsimp only at this; omega)
      have hw1 : IntKind.i64.wrap (y1 : Int) = (y1 : Int) := IntWalk.i64_in _ (by have := hxo.ver; dsimp only at this; omega)
      have hba : Below wr.heap.size wr (wr.alloc (.cells #[.int .u32 (y0 : Int), .int .u32 (y1 : Int), .int .i64 y2, .int .i64 y3] 90 (0, 0))) := (Below.refl _ _).alloc (Nat.le_refl _) _
      have HBA := Lib.hid (HB.out.trans (hba.mono HB.out.size))
      have HTA := Lib.hid (old_heap HTk.out hba)
      have HOA0 := HO.out.alloc (.cells #[.int .u32 (y0 : Int), .int .u32 (y1 : Int), .int .i64 y2, .int .i64 y3] 90 (0, 0))
      have hnew := heap_alloc_last wr (.cells #[.int .u32 (y0 : Int), .int .u32 (y1 : Int), .int .i64 y2, .int .i64 y3] 90 (0, 0))
      have z0 : (wr.alloc (.cells #[.int .u32 (y0 : Int), .int .u32 (y1 : Int), .int .i64 y2, .int .i64 y3] 90 (0, 0))).cell? ⟨wr.heap.size, 0, none⟩ = some (.int .u32 (y0 : Int)) := cell_row hnew 0
      have z1 : (wr.alloc (.cells #[.int .u32 (y0 : Int), .int .u32 (y1 : Int), .int .i64 y2, .int .i64 y3] 90 (0, 0))).cell? ⟨wr.heap.size, 1, none⟩ = some (.int .u32 (y1 : Int)) := cell_row hnew 1
      have z2 : (wr.alloc (.cells #[.int .u32 (y0 : Int), .int .u32 (y1 : Int), .int .i64 y2, .int .i64 y3] 90 (0, 0))).cell? ⟨wr.heap.size, 2, none⟩ = some (.int .i64 y2) := cell_row hnew 2
      have z3 : (wr.alloc (.cells #[.int .u32 (y0 : Int), .int .u32 (y1 : Int), .int .i64 y2, .int .i64 y3] 90 (0, 0))).cell? ⟨wr.heap.size, 3, none⟩ = some (.int .i64 y3) := cell_row hnew 3
      have HO1 := Lib.hid HOA0
      clear hr hr2 hx hba HOA0 hnew hxo
      go_upto_region 6 with fail
      revert HBA HTA HO1 z0 z1 z2 z3
      generalize wr.alloc (.cells #[.int .u32 (y0 : Int), .int .u32 (y1 : Int), .int .i64 y2, .int .i64 y3] 90 (0, 0)) = w2
      generalize wr.heap.size = p2
      intro HBA HTA z0 z1 z2 z3 HO1
      clear e0 e1 e2 e3
      by_cases hin : 0 ≤ y3 ∧ y3 ≤ 2
      · obtain ⟨hin1, hin2⟩ := hin
        have hm : recordMay ⟨y0, y1, y2, y3⟩ = true := decide_eq_true ⟨hin1, hin2⟩
        have HM := Lib.hid hm
        have hoa := HO1.out.alloc (.cells #[.int .i64 2, .int .i64 (y0 : Int), .int .i64 4, .int .i64 (y1 : Int), .int .i64 2, .int .i64 y2, .int .i64 1, .int .i64 y3] 148 (0, 0))
        have hba := HBA.out.alloc HBA.out.size (.cells #[.int .i64 2, .int .i64 (y0 : Int), .int .i64 4, .int .i64 (y1 : Int), .int .i64 2, .int .i64 y2, .int .i64 1, .int .i64 y3] 148 (0, 0))
        have hrd := rd_rowN (cs := rowsOf fldF (recordL ⟨y0, y1, y2, y3⟩)) (heap_alloc_last w2 (.cells (rowsOf fldF (recordL ⟨y0, y1, y2, y3⟩)).toArray 148 (0, 0))) (k := 2) (n := 4) rfl 4
        have HOB := Lib.hid hoa
        have HBB := Lib.hid hba
        have HRD := Lib.hid hrd
        clear hm hoa hba hrd
        go_wp2_with (at_builtin; go_must (refine wpList_append_rd _ rfl (.tmp 26) (.tmp 41) 119 rfl w1.heap.size 148 (.agg #[.int .i64 0, .int .i64 0]) 2 16 Try.underlying119 infoFld rfl (by decide) _ _ _ rfl HOB.out _ 4 (rowsOf fldF (recordL ⟨y0, y1, y2, y3⟩)) rfl HRD.out ?c1 ?c2 (by decide) HBB.out.size ?_; (case c1 => exact rowsOf_one fldF_one _); (case c2 => omega); intro v5 w5 hown5 hbel5 hg5; have HO5 := Lib.hid hown5; have HB5 := Lib.hid (HBB.out.trans hbel5); clear hown5 hbel5 hg5))
        have HO6 : Hid (w5.ownsRow w1.heap.size 148 2 v5 (4 * (k + 1)) (rowsOf fldF (recordAll (L.take (k + 1))))) := Lib.hid (by
          rw [recordAll_snoc L k _ HX.out, rowsOf_append, show 4 * (k + 1) = 4 * k + 4 from by omega]
          exact HO5.out)
        have HK6 : Hid ((L.take (k + 1)).all recordMay = true) := Lib.hid (by
          obtain ⟨hk3, e3⟩ := List.getElem?_eq_some_iff.1 HX.out
          rw [List.take_succ_eq_append_getElem hk3, List.all_append, HK.out, e3]
          simp [HM.out])
        clear HO5 hw0 hw1
        go_roundw
        case rel => exact ⟨k + 1, by omega, by go_num, HO6, HK6, HB5⟩
        case measure => simp [intOf]; omega
      · have hno : recordsMay L = false := by
          unfold recordsMay
          have : L.all recordMay = false := by rw [List.all_eq_false]; exact ⟨_, List.mem_of_getElem? HX.out, by unfold recordMay; rw [decide_eq_false hin]; simp⟩
          rw [this]; rfl
        have HNO := Lib.hid hno
        have HBF := Lib.hid (HB1.out.trans (HBA.out.mono HB1.out.size))
        have hcut : ∀ G : Prop, (y3 < 0 → G) → (¬ y3 < 0 → 2 < y3 → G) → G := fun G a b => by
          by_cases h1 : y3 < 0
          · exact a h1
          · exact b h1 (by omega)
        clear hin hno hw0 hw1
        refine hcut _ ?_ ?_ <;> clear hcut <;> intros
        all_goals
          go_wp2_with (refine wpList_store_row rfl 28 (.tmp 2) (.tmp 25) rfl w.heap.size zArr zArr 28 rfl rfl HTA.out (by rw [zArr_size]; exact size_arr) rfl zArr_one ?_)
          have hld := run_loadVar_row (P := Try.prog) (w2.setRow w.heap.size zArr) w.heap.size 28 28 zArr (0, 0) _ (setRow_heap _ _ _ _ _ _ HTA.out) Try.underlying28 (by simp) (by rw [zArr_size]; exact size_arr)
          exact bodyPost_ret (v := .tuple #[secV (List.replicate 128 0), .bool false]) (results_cell2 Try.results35 rfl rfl hld) rfl (rsS_no (by rw [HNO.out]; rfl) rfl (below_row HBF.out (Nat.le_refl _)))
    · obtain rfl : k = L.length := by omega
      have hall := HK.out
      rw [List.take_length] at hall
      have ho := HO.out
      rw [List.take_length] at ho
      have HBF := Lib.hid (HB1.out.trans (HB.out.mono HB1.out.size))
      by_cases hmost : L.length ≤ 13
      · have hyes : recordsMay L = true := by unfold recordsMay; rw [hall, decide_eq_true hmost]; rfl
        have hmI : ¬ ((13 : Int) < (L.length : Int)) := by omega
        have hse := rsealed_any 7 _ (recordAll L) wr (own_rows fldF_len ho (recordAll_n L).symm (fun _ _ => id)) (recordAll_ok L HOK.out) (by rw [recordAll_n]; omega)
        unfold RsS secV at hse
        obtain ⟨ok, hok⟩ : ∃ ok, fBad (recordAll L) = ok := ⟨_, rfl⟩
        obtain ⟨B, hB⟩ : ∃ B, fB (recordAll L) = B := ⟨_, rfl⟩
        rw [hok, hB] at hse
        have hS : (bvs (wrS 7 (!ok) B)).toArray.size = 128 := by rw [secV_size, wrS_length]
        have HSE := Lib.hid hse
        have HSS := Lib.hid hS
        have HOK2 := Lib.hid hok
        have HBB := Lib.hid hB
        have HYES := Lib.hid hyes
        clear hyes hse hok hB hS hall ho hmost HO HK
        go_wp2_with (first
          | (go_at_call 48; go_must (refine HSE.out.mono ?_; rintro e w3 ⟨rfl, hb3⟩; have HT3 := Lib.hid (old_heap HTk.out hb3); have HB3 := Lib.hid (bnext HBF.out hb3); clear hb3))
          | (refine wpList_store_row rfl 28 (.tmp 2) (.tmp 49) rfl w.heap.size zArr (bvs (wrS 7 (!ok) B)).toArray 28 rfl rfl HT3.out (by rw [HSS.out]; exact size_arr) (by rw [HSS.out, zArr_size]) (sec_one _) ?_))
        have hld := run_loadVar_row (P := Try.prog) (w3.setRow w.heap.size (bvs (wrS 7 (!ok) B)).toArray) w.heap.size 28 28 (bvs (wrS 7 (!ok) B)).toArray (0, 0) _ (setRow_heap _ _ _ _ _ _ HT3.out) Try.underlying28 (by simp) (by rw [HSS.out]; exact size_arr)
        refine bodyPost_ret (v := .tuple #[secV (wrS 7 (!ok) B), .bool (!ok && mayB 7 B)]) (results_cell2 Try.results35 rfl rfl hld) rfl ?_
        rw [HYES.out, Bool.true_and, HOK2.out, HBB.out]
        exact ⟨rfl, below_row HB3.out (Nat.le_refl _)⟩
      · have hno : recordsMay L = false := by unfold recordsMay; rw [decide_eq_false hmost, Bool.and_false]
        have hmI : (13 : Int) < (L.length : Int) := by omega
        have HNO := Lib.hid hno
        clear hno hall ho hmost HO HK
        go_wp2_with (refine wpList_store_row rfl 28 (.tmp 2) (.tmp 46) rfl w.heap.size zArr zArr 28 rfl rfl HTk.out (by rw [zArr_size]; exact size_arr) rfl zArr_one ?_)
        have hld := run_loadVar_row (P := Try.prog) (wr.setRow w.heap.size zArr) w.heap.size 28 28 zArr (0, 0) _ (setRow_heap _ _ _ _ _ _ HTk.out) Try.underlying28 (by simp) (by rw [zArr_size]; exact size_arr)
        exact bodyPost_ret (v := .tuple #[secV (List.replicate 128 0), .bool false]) (results_cell2 Try.results35 rfl rfl hld) rfl (rsS_no (by rw [HNO.out]; rfl) rfl (below_row HBF.out (Nat.le_refl _)))
end Go.Proofs.Ytlcbfpcabalgcaa
