/-
  Codec: pointers: the reference's.
-/
import Derived.Test.YtlcbfpcabalgcaaCodPs
namespace Go.Proofs.Ytlcbfpcabalgcaa
open Go.RowKit
set_option linter.unusedVariables false
set_option linter.unusedSimpArgs false
set_option linter.unnecessarySimpa false
theorem slice_s (W : World) (g a : Nat) (h : a ≤ 124) :
    (Instr.sliceAt 28 (.pointer (some ⟨g, 0, none⟩)) (some (.int .i64 (a : Int))) (some (.int .i64 ((a : Int) + 4))) none).run Try.prog W = .ok (.slice (some ⟨g, a, none⟩) 4 (128 - a)) W := by
  have hl : Try.prog.arrayLen 28 = 128 := by kernel_rfl
  have he : Try.prog.elem 28 = 5 := by kernel_rfl
  obtain ⟨i, hi⟩ := info_of_underlying (P := Try.prog) Try.underlying5
  have hs : Try.prog.cellsOf 5 = 1 := by kernel_rfl
  rw [run_sliceAt_array_lh W 28 ⟨g, 0, none⟩ (by rw [hl, he]; exact Try.underlying28) .i64 .i64 _ _ (by omega) (by omega) (by rw [hl]; omega), hl, he, run_sizeOf _ hi]
  have e1 : ((a : Int) + 4).toNat = a + 4 := by omega
  have e2 : ¬ (128 = a) := by omega
  simp [Result.andThen, slicedAt, e1, e2, hs, Addr.add]
  intro h0; exact h0.symm
theorem num_cutP {W : World} {bk o a k cp : Nat} {b : List UInt8} (h : RdB W bk o b) (h1 : a + k ≤ b.length) (hk : 1 ≤ k ∧ k ≤ 8) :
    Calls Try.prog 60 #[.slice (some ⟨bk, o + a, none⟩) k cp] W fun e w' => e = .returned (.int .u64 (part b a k : Int)) ∧ W = w' := by
  have hl : ((b.drop a).take k).length = k := by simp; omega
  have q := rnum_some bk (o + a) cp ((b.drop a).take k) W (by omega) (h.sub a k h1)
  rw [hl] at q
  exact q
set_option maxRecDepth 100000 in
set_option maxHeartbeats 16000000 in
theorem rrptr_any (l : List UInt8) (w : World) (hl : l.length = 128) :
    Calls Try.prog 25 #[secV l] w (RpR w l) := by
  have HSZ : Hid ((bvs l).toArray.size = 128) := by unfold Hid; rw [secV_size, hl]
  have HL := Lib.hid hl
  clear hl
  unfold secV
  go_enter Try.func25, Try.ntmps25
  go_upto_region 2 with fail
  have hA := a3 w (.cells (bvs l).toArray 28 (0, 0)) (.cells #[.int .i64 0, .int .i64 0, .int .i64 0, .int .i64 0, .int .i64 0, .int .i64 0, .int .i64 0, .int .i64 0, .int .i64 0, .int .i64 0, .int .i64 0, .int .i64 0, .int .i64 0, .int .i64 0, .int .i64 0, .int .i64 0, .int .i64 0, .int .i64 0, .int .i64 0, .int .i64 0, .int .i64 0, .int .i64 0, .int .i64 0, .int .i64 0, .int .i64 0, .int .i64 0, .int .i64 0, .int .i64 0, .int .i64 0, .int .i64 0, .int .i64 0, .int .i64 0] 54 (0, 0)) (.cells #[.int .i64 0, .int .i64 0, .int .i64 0, .int .i64 0, .int .i64 0, .int .i64 0, .int .i64 0, .int .i64 0, .int .i64 0, .int .i64 0, .int .i64 0, .int .i64 0, .int .i64 0, .int .i64 0, .int .i64 0, .int .i64 0, .int .i64 0, .int .i64 0, .int .i64 0, .int .i64 0, .int .i64 0, .int .i64 0, .int .i64 0, .int .i64 0, .int .i64 0, .int .i64 0, .int .i64 0, .int .i64 0, .int .i64 0, .int .i64 0, .int .i64 0, .int .i64 0] 54 (0, 0))
  revert hA
  generalize ((w.alloc (.cells (bvs l).toArray 28 (0, 0))).alloc (.cells #[.int .i64 0, .int .i64 0, .int .i64 0, .int .i64 0, .int .i64 0, .int .i64 0, .int .i64 0, .int .i64 0, .int .i64 0, .int .i64 0, .int .i64 0, .int .i64 0, .int .i64 0, .int .i64 0, .int .i64 0, .int .i64 0, .int .i64 0, .int .i64 0, .int .i64 0, .int .i64 0, .int .i64 0, .int .i64 0, .int .i64 0, .int .i64 0, .int .i64 0, .int .i64 0, .int .i64 0, .int .i64 0, .int .i64 0, .int .i64 0, .int .i64 0, .int .i64 0] 54 (0, 0))).alloc (.cells #[.int .i64 0, .int .i64 0, .int .i64 0, .int .i64 0, .int .i64 0, .int .i64 0, .int .i64 0, .int .i64 0, .int .i64 0, .int .i64 0, .int .i64 0, .int .i64 0, .int .i64 0, .int .i64 0, .int .i64 0, .int .i64 0, .int .i64 0, .int .i64 0, .int .i64 0, .int .i64 0, .int .i64 0, .int .i64 0, .int .i64 0, .int .i64 0, .int .i64 0, .int .i64 0, .int .i64 0, .int .i64 0, .int .i64 0, .int .i64 0, .int .i64 0, .int .i64 0] 54 (0, 0)) = w2
  intro hA
  rw [zP_eq] at hA
  have HA := Lib.hid hA
  clear hA
  have HT3 := Lib.hid HA.out.h1
  have HO3 := Lib.hid (show w2.heap[w.heap.size + 1 + 1]? = some (.cells (ints (ptK l 0)).toArray 54 (0, 0)) from by rw [← zP_0 l]; exact HA.out.h2)
  have HB3 := Lib.hid HA.out.bel
  have HG3 := Lib.hid HA.out.h0
  clear HA
  go_wp2
  go_loopw [5] (fun i wr => ∃ k : Nat, k ≤ 32 ∧ i = .int .i64 (k : Int) ∧ Hid (wr.heap[w.heap.size]? = some (.cells (bvs l).toArray 28 (0, 0))) ∧ Hid (wr.heap[w.heap.size + 1 + 1]? = some (.cells (ints (ptK l k)).toArray 54 (0, 0))) ∧ Hid (wr.heap[w.heap.size + 1]? = some (.cells zP 54 (0, 0))) ∧ Hid (∀ i, i < k → ptBig l i = false) ∧ Hid (Below w.heap.size w wr)) (fun i _ => (32 - intOf i).toNat)
  case atStart => exact ⟨0, by omega, rfl, HG3, HO3, HT3, Lib.hid (fun i h => absurd h (Nat.not_lt_zero i)), HB3⟩
  case round =>
    obtain ⟨k, hk, rfl, HGG, HO, HT, HG, HB⟩ := hrel
    clear HO3 HT3 HB3 HG3
    by_cases hlt : k < 32
    · have hrd : RdB wr w.heap.size 0 l := RdB.row HGG.out (fun i hi => by rw [Nat.zero_add, List.getElem?_toArray, bvs_get _ _ hi])
      obtain ⟨a, ha⟩ : ∃ a, 4 * k = a := ⟨_, rfl⟩
      have hnum := num_cutP (cp := 128 - a) hrd (a := a) (k := 4) (by rw [HL.out]; omega) (by decide)
      rw [Nat.zero_add] at hnum
      obtain ⟨n, hn⟩ : ∃ n, part l a 4 = n := ⟨_, rfl⟩
      rw [hn] at hnum
      have hn4 : n < 4294967296 := by rw [← hn]; exact part_lt l a 4
      have HNUM := Lib.hid hnum
      have HN := Lib.hid (show part l (4 * k) 4 = n by rw [ha]; exact hn)
      have hk4 : (4 : Int) * (k : Int) = (a : Int) := by omega
      have ha124 : a ≤ 124 := by omega
      have hsl := fun W => slice_s W w.heap.size a ha124
      clear hnum hn hrd ha
      have hcv : IntKind.i64.wrap (n : Int) = (n : Int) := IntWalk.i64_in _ (by omega)
      by_cases hbig : 65535 < n
      · have hno := rptOk_no l k hlt (by unfold ptBig; rw [HN.out]; exact decide_eq_true hbig)
        have HNO := Lib.hid hno
        have hbI : (65535 : Int) < (n : Int) := by omega
        clear hno hbig
        go_upto_region 7 with (go_at_call 60; go_must (refine HNUM.out.mono ?_; rintro e wq ⟨rfl, rfl⟩))
        go_wp2_with (refine wpList_store_row rfl 54 (.tmp 2) (.tmp 20) rfl (w.heap.size + 1) zP zP 54 rfl rfl HT.out (by rw [zP_size]; exact infoPtr) rfl zP_one ?_)
        have hld := run_loadVar_row (P := Try.prog) (wr.setRow (w.heap.size + 1) zP) (w.heap.size + 1) 54 54 zP (0, 0) _ (setRow_heap _ _ _ _ _ _ HT.out) Try.underlying54 (by simp) (by rw [zP_size]; exact infoPtr)
        exact bodyPost_ret (v := .tuple #[.agg zP, .bool false]) (results_cell2 Try.results25 rfl rfl hld) rfl (rpR_no HNO.out rfl (below_row HB.out (by omega)))
      · have hbI : (n : Int) ≤ 65535 := by omega
        have hbg : ptBig l k = false := by unfold ptBig; rw [HN.out]; exact decide_eq_false hbig
        have HBG := Lib.hid hbg
        clear hbg hbig
        have hb1 : ¬ (65535 < (n : Int)) := by omega
        have hb2 : ¬ (65535 < n) := by omega
        have hb3 : decide (65535 < (n : Int)) = false := decide_eq_false hb1
        go_upto_region 8 with (go_at_call 60; go_must (refine HNUM.out.mono ?_; rintro e wq ⟨rfl, rfl⟩))
        clear hb1 hb2 hb3
        have ck : wr.cell? ⟨w.heap.size + 1 + 1, k, none⟩ = some (.int .i64 ((ptK l k).getD k 0)) := (cell_row HO.out k).trans (ints_at _ _ _ (by rw [List.getD_eq_getElem?_getD, List.getElem?_eq_getElem (by rw [ptK_len l k hk]; exact hlt)]; rfl))
        have fk : wr.frozen? ⟨w.heap.size + 1 + 1, k, none⟩ = false := free_row HO.out _
        go_wp2
        have hO5 := head_set HO.out k (.int .i64 (n : Int))
        rw [ints_set, ← HN.out, ptK_next l k hlt, HN.out] at hO5
        have HO5 := Lib.hid hO5
        have HGG5 := Lib.hid ((Below.heap_setCell wr ⟨w.heap.size + 1 + 1, k, none⟩ (.int .i64 (n : Int)) w.heap.size (by show w.heap.size ≠ w.heap.size + 1 + 1; omega)).trans HGG.out)
        have HT5 := Lib.hid ((Below.heap_setCell wr ⟨w.heap.size + 1 + 1, k, none⟩ (.int .i64 (n : Int)) (w.heap.size + 1) (by show w.heap.size + 1 ≠ w.heap.size + 1 + 1; omega)).trans HT.out)
        have HB5 := Lib.hid (HB.out.setCell (p := ⟨w.heap.size + 1 + 1, k, none⟩) (by show w.heap.size ≤ w.heap.size + 1 + 1; omega) (.int .i64 (n : Int)))
        have HG5 : Hid (∀ i, i < k + 1 → ptBig l i = false) := Lib.hid (fun i hi => by
          by_cases h : i = k
          · rw [h]; exact HBG.out
          · exact HG.out i (by omega))
        clear hO5
        go_roundw
        case rel => exact ⟨k + 1, by omega, by go_num, HGG5, HO5, HT5, HG5, HB5⟩
        case measure => simp [intOf]; omega
    · obtain rfl : k = 32 := by omega
      have hyes : rptOk l = true := by
        unfold rptOk
        rw [List.all_eq_true]
        intro i hi
        rw [HG.out i (List.mem_range.1 hi)]; rfl
      have HYES := Lib.hid hyes
      have HV : Hid ((rptV l) = ptK l 32) := Lib.hid (by rw [rptV, hyes, if_pos rfl])
      have HS : Hid ((ints (ptK l 32)).toArray.size = 32) := Lib.hid (by rw [List.size_toArray, ints_len, ptK_len l 32 (Nat.le_refl _)])
      have H1 : Hid ((ints (ptK l 32)).toArray.all (·.oneCell') = true) := Lib.hid (ints_one _)
      obtain ⟨C, hC⟩ : ∃ C, (ints (ptK l 32)).toArray = C := ⟨_, rfl⟩
      rw [hC] at HO HS H1
      have HC := Lib.hid hC
      clear hyes hC
      go_wp2_with (first
        | (refine wpList_load_row rfl 54 (.tmp 4) rfl (w.heap.size + 1 + 1) rfl _ _ _ _ HO.out Try.underlying54 rfl (by rw [HS.out]; exact infoPtr) ?_)
        | (refine wpList_store_row rfl 54 (.tmp 2) (.tmp 25) rfl (w.heap.size + 1) _ C 54 rfl rfl HT.out (by rw [HS.out]; exact infoPtr) (by rw [HS.out, zP_size]) H1.out ?_))
      have hld := run_loadVar_row (P := Try.prog) (wr.setRow (w.heap.size + 1) C) (w.heap.size + 1) 54 54 C (0, 0) _ (setRow_heap _ _ _ _ _ _ HT.out) Try.underlying54 (by simp) (by rw [HS.out]; exact infoPtr)
      exact bodyPost_ret (v := .tuple #[.agg C, .bool true]) (results_cell2 Try.results25 rfl rfl hld) rfl (rpR_yes HYES.out (by rw [HC.out]) (below_row HB.out (by omega)))
end Go.Proofs.Ytlcbfpcabalgcaa
