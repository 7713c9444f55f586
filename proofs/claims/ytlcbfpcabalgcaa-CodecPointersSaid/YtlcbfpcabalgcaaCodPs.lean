/-
  Codec: pointers: the program's reading.
-/
import Derived.Test.YtlcbfpcabalgcaaCodPt
namespace Go.Proofs.Ytlcbfpcabalgcaa
open Go.RowKit
set_option linter.unusedVariables false
set_option linter.unusedSimpArgs false
set_option linter.unnecessarySimpa false
/-- Numbers read, so many of them; zeros behind. -/
def ptK (l : List UInt8) (k : Nat) : List Int := (List.range k).map (fun i => (part l (4 * i) 4 : Int)) ++ List.replicate (32 - k) 0
theorem ptK_len (l : List UInt8) (k : Nat) (h : k ≤ 32) : (ptK l k).length = 32 := by unfold ptK; simp; omega
theorem ptK_next (l : List UInt8) (k : Nat) (h : k < 32) : (ptK l k).set k (part l (4 * k) 4 : Int) = ptK l (k + 1) := by
  unfold ptK
  rw [List.set_append, if_neg (by simp), List.length_map, List.length_range, Nat.sub_self, show 32 - k = (32 - (k + 1)) + 1 from by omega, List.replicate_succ, List.set_cons_zero, List.range_succ, List.map_append]
  simp
theorem ints_set (z : List Int) (k : Nat) (n : Int) : (ints z).toArray.setIfInBounds k (.int .i64 n) = (ints (z.set k n)).toArray := by
  rw [List.setIfInBounds_toArray]; unfold ints; rw [List.map_set]
def ptBig (l : List UInt8) (k : Nat) : Bool := decide (65535 < part l (4 * k) 4)
def rptOk (l : List UInt8) : Bool := (List.range 32).all fun k => !ptBig l k
def rptV (l : List UInt8) : List Int := if rptOk l then ptK l 32 else List.replicate 32 0
theorem rptOk_no (l : List UInt8) (k : Nat) (h : k < 32) (hb : ptBig l k = true) : rptOk l = false := by
  unfold rptOk
  rw [List.all_eq_false]
  exact ⟨k, List.mem_range.2 h, by rw [hb]; simp⟩
theorem rptV_len (l : List UInt8) : (rptV l).length = 32 := by unfold rptV; split; exact ptK_len l 32 (Nat.le_refl _); simp
theorem zeroP : (ints (List.replicate 32 0)).toArray = (ints (ptK [] 0)).toArray := by unfold ptK; simp
def RpT (w : World) (l : List UInt8) (e : Ending) (w' : World) : Prop := e = .returned (.tuple #[.agg (ints (rptV l)).toArray, .int .i64 (if rptOk l then 0 else 21)]) ∧ Below w.heap.size w w'
def RpR (w : World) (l : List UInt8) (e : Ending) (w' : World) : Prop := e = .returned (.tuple #[.agg (ints (rptV l)).toArray, .bool (rptOk l)]) ∧ Below w.heap.size w w'
theorem rpT_no {w w' : World} {l : List UInt8} {e : Ending} (h : rptOk l = false) (he : e = .returned (.tuple #[.agg (ints (List.replicate 32 0)).toArray, .int .i64 21])) (hb : Below w.heap.size w w') : RpT w l e w' := by
  unfold RpT rptV; rw [h]; exact ⟨he, hb⟩
theorem rpR_no {w w' : World} {l : List UInt8} {e : Ending} (h : rptOk l = false) (he : e = .returned (.tuple #[.agg (ints (List.replicate 32 0)).toArray, .bool false])) (hb : Below w.heap.size w w') : RpR w l e w' := by
  unfold RpR rptV; rw [h]; exact ⟨he, hb⟩
theorem rpT_yes {w w' : World} {l : List UInt8} {e : Ending} (h : rptOk l = true) (he : e = .returned (.tuple #[.agg (ints (ptK l 32)).toArray, .int .i64 0])) (hb : Below w.heap.size w w') : RpT w l e w' := by
  unfold RpT rptV; rw [h, if_pos rfl, if_pos rfl]; exact ⟨he, hb⟩
theorem rpR_yes {w w' : World} {l : List UInt8} {e : Ending} (h : rptOk l = true) (he : e = .returned (.tuple #[.agg (ints (ptK l 32)).toArray, .bool true])) (hb : Below w.heap.size w w') : RpR w l e w' := by
  unfold RpR rptV; rw [h, if_pos rfl]; exact ⟨he, hb⟩
theorem ptZ : (ints (List.replicate 32 0)).toArray = #[.int .i64 0, .int .i64 0, .int .i64 0, .int .i64 0, .int .i64 0, .int .i64 0, .int .i64 0, .int .i64 0, .int .i64 0, .int .i64 0, .int .i64 0, .int .i64 0, .int .i64 0, .int .i64 0, .int .i64 0, .int .i64 0, .int .i64 0, .int .i64 0, .int .i64 0, .int .i64 0, .int .i64 0, .int .i64 0, .int .i64 0, .int .i64 0, .int .i64 0, .int .i64 0, .int .i64 0, .int .i64 0, .int .i64 0, .int .i64 0, .int .i64 0, .int .i64 0] := rfl
def zP : Array Value := (ints (List.replicate 32 0)).toArray
theorem zP_eq : #[.int .i64 0, .int .i64 0, .int .i64 0, .int .i64 0, .int .i64 0, .int .i64 0, .int .i64 0, .int .i64 0, .int .i64 0, .int .i64 0, .int .i64 0, .int .i64 0, .int .i64 0, .int .i64 0, .int .i64 0, .int .i64 0, .int .i64 0, .int .i64 0, .int .i64 0, .int .i64 0, .int .i64 0, .int .i64 0, .int .i64 0, .int .i64 0, .int .i64 0, .int .i64 0, .int .i64 0, .int .i64 0, .int .i64 0, .int .i64 0, .int .i64 0, .int .i64 0] = zP := rfl
theorem zP_size : zP.size = 32 := by unfold zP ints; simp
theorem zP_one : zP.all (·.oneCell') = true := ints_one _
theorem zP_0 (l : List UInt8) : zP = (ints (ptK l 0)).toArray := by unfold zP ptK; simp
set_option maxRecDepth 100000 in
set_option maxHeartbeats 16000000 in
theorem rptr_any (l : List UInt8) (w : World) (hl : l.length = 128) :
    Calls Try.prog 23 #[secV l] w (RpT w l) := by
  have HSZ : Hid ((bvs l).toArray.size = 128) := by unfold Hid; rw [secV_size, hl]
  have HL := Lib.hid hl
  clear hl
  unfold secV
  go_enter Try.func23, Try.ntmps23
  go_upto_region 2 with fail
  have hA := a3 w (.cells (bvs l).toArray 29 (0, 0)) (.cells #[.int .i64 0, .int .i64 0, .int .i64 0, .int .i64 0, .int .i64 0, .int .i64 0, .int .i64 0, .int .i64 0, .int .i64 0, .int .i64 0, .int .i64 0, .int .i64 0, .int .i64 0, .int .i64 0, .int .i64 0, .int .i64 0, .int .i64 0, .int .i64 0, .int .i64 0, .int .i64 0, .int .i64 0, .int .i64 0, .int .i64 0, .int .i64 0, .int .i64 0, .int .i64 0, .int .i64 0, .int .i64 0, .int .i64 0, .int .i64 0, .int .i64 0, .int .i64 0] 54 (0, 0)) (.cells #[.int .i64 0, .int .i64 0, .int .i64 0, .int .i64 0, .int .i64 0, .int .i64 0, .int .i64 0, .int .i64 0, .int .i64 0, .int .i64 0, .int .i64 0, .int .i64 0, .int .i64 0, .int .i64 0, .int .i64 0, .int .i64 0, .int .i64 0, .int .i64 0, .int .i64 0, .int .i64 0, .int .i64 0, .int .i64 0, .int .i64 0, .int .i64 0, .int .i64 0, .int .i64 0, .int .i64 0, .int .i64 0, .int .i64 0, .int .i64 0, .int .i64 0, .int .i64 0] 54 (0, 0))
  revert hA
  generalize ((w.alloc (.cells (bvs l).toArray 29 (0, 0))).alloc (.cells #[.int .i64 0, .int .i64 0, .int .i64 0, .int .i64 0, .int .i64 0, .int .i64 0, .int .i64 0, .int .i64 0, .int .i64 0, .int .i64 0, .int .i64 0, .int .i64 0, .int .i64 0, .int .i64 0, .int .i64 0, .int .i64 0, .int .i64 0, .int .i64 0, .int .i64 0, .int .i64 0, .int .i64 0, .int .i64 0, .int .i64 0, .int .i64 0, .int .i64 0, .int .i64 0, .int .i64 0, .int .i64 0, .int .i64 0, .int .i64 0, .int .i64 0, .int .i64 0] 54 (0, 0))).alloc (.cells #[.int .i64 0, .int .i64 0, .int .i64 0, .int .i64 0, .int .i64 0, .int .i64 0, .int .i64 0, .int .i64 0, .int .i64 0, .int .i64 0, .int .i64 0, .int .i64 0, .int .i64 0, .int .i64 0, .int .i64 0, .int .i64 0, .int .i64 0, .int .i64 0, .int .i64 0, .int .i64 0, .int .i64 0, .int .i64 0, .int .i64 0, .int .i64 0, .int .i64 0, .int .i64 0, .int .i64 0, .int .i64 0, .int .i64 0, .int .i64 0, .int .i64 0, .int .i64 0] 54 (0, 0)) = w2
  intro hA
  rw [zP_eq] at hA
  have HA := Lib.hid hA
  clear hA
  have HRD := fun W => Lib.hid (nread_any l W HL.out)
  unfold secV at HRD
  go_upto_region 3 with (first
    | (refine wpList_load_row rfl 29 (.tmp 1) rfl w.heap.size rfl _ _ _ _ HA.out.h0 Try.underlying29 rfl (by rw [HSZ.out]; exact size_sec) ?_)
    | (go_at_call 64; go_must (refine (HRD _).out.mono ?_; rintro e w3 ⟨gr, rfl, hgr, hr3, hb3⟩; have HGR := Lib.hid hgr; have HR3 := Lib.hid hr3; have HT3 := Lib.hid (old_heap HA.out.h1 hb3); have HO3 := Lib.hid (show w3.heap[w.heap.size + 1 + 1]? = some (.cells (ints (ptK l 0)).toArray 54 (0, 0)) from by rw [← zP_0 l]; exact old_heap HA.out.h2 hb3); have HB3 := Lib.hid (bnext HA.out.bel hb3); have HS3 := Lib.hid (show w.heap.size + 1 + 1 < gr from by have := HA.out.size; omega); clear hgr hr3 hb3)))
  clear HRD HA
  go_wp2
  go_loopw [10] (fun i wr => ∃ k : Nat, k ≤ 32 ∧ i = .int .i64 (k : Int) ∧ Hid (RdrAt wr gr ⟨l, 4 * k, 0⟩) ∧ Hid (wr.heap[w.heap.size + 1 + 1]? = some (.cells (ints (ptK l k)).toArray 54 (0, 0))) ∧ Hid (wr.heap[w.heap.size + 1]? = some (.cells zP 54 (0, 0))) ∧ Hid (∀ i, i < k → ptBig l i = false) ∧ Hid (Below w.heap.size w wr)) (fun i _ => (32 - intOf i).toNat)
  case atStart => exact ⟨0, by omega, rfl, HR3, HO3, HT3, Lib.hid (fun i h => absurd h (Nat.not_lt_zero i)), HB3⟩
  case round =>
    obtain ⟨k, hk, rfl, HR, HO, HT, HG, HB⟩ := hrel
    clear HR3 HO3 HT3 HB3
    by_cases hlt : k < 32
    · have hnum := rdnum_any gr ⟨l, 4 * k, 0⟩ 4 wr HR.out
      have hst : rNum ⟨l, 4 * k, 0⟩ 4 = (⟨l, 4 * (k + 1), 0⟩, part l (4 * k) 4) := by
        have := rNum_at l (4 * k) 4 (by decide) (by decide) (by omega)
        rw [show 4 * (k + 1) = 4 * k + 4 by omega]
        exact this
      rw [hst] at hnum
      unfold RdTo at hnum
      obtain ⟨n, hn⟩ : ∃ n, part l (4 * k) 4 = n := ⟨_, rfl⟩
      dsimp only at hnum
      rw [hn] at hnum
      have hn4 : n < 4294967296 := by rw [← hn]; exact part_lt l (4 * k) 4
      have HNUM := Lib.hid hnum
      have HN := Lib.hid hn
      clear hnum hst hn
      have hcv : IntKind.i64.wrap (n : Int) = (n : Int) := IntWalk.i64_in _ (by omega)
      by_cases hbig : 65535 < n
      · have hno := rptOk_no l k hlt (by unfold ptBig; rw [HN.out]; exact decide_eq_true hbig)
        have HNO := Lib.hid hno
        have hbI : (65536 : Int) ≤ (n : Int) := by omega
        clear hno hbig
        go_upto_region 8 with (go_at_call 65; go_must (refine HNUM.out.mono ?_; rintro e w4 ⟨rfl, hr4, ho4⟩; have HT4 := Lib.hid ((only_below (B := w.heap.size + 1 + 1 + 1) ho4 (by have := HS3.out; omega)).block (w.heap.size + 1) (by omega) |>.trans HT.out); have HB4 := Lib.hid (HB.out.trans (only_below (B := w.heap.size) ho4 (by have := HS3.out; omega))); clear hr4 ho4))
        go_wp2_with (refine wpList_store_row rfl 54 (.tmp 2) (.tmp 17) rfl (w.heap.size + 1) zP zP 54 rfl rfl HT4.out (by rw [zP_size]; exact infoPtr) rfl zP_one ?_)
        have hld := run_loadVar_row (P := Try.prog) (w4.setRow (w.heap.size + 1) zP) (w.heap.size + 1) 54 54 zP (0, 0) _ (setRow_heap _ _ _ _ _ _ HT4.out) Try.underlying54 (by simp) (by rw [zP_size]; exact infoPtr)
        exact bodyPost_ret (v := .tuple #[.agg zP, .int .i64 21]) (results_cell2 Try.results23 rfl rfl hld) rfl (rpT_no HNO.out rfl (below_row HB4.out (by omega)))
      · have hbI : (n : Int) ≤ 65535 := by omega
        have hbg : ptBig l k = false := by unfold ptBig; rw [HN.out]; exact decide_eq_false hbig
        have HBG := Lib.hid hbg
        clear hbg hbig
        have hb1 : ¬ (65536 ≤ (n : Int)) := by omega
        have hb2 : ¬ (65536 ≤ n) := by omega
        have hb3 : decide (65536 ≤ (n : Int)) = false := decide_eq_false hb1
        go_upto_region 9 with (go_at_call 65; go_must (refine HNUM.out.mono ?_; rintro e w4 ⟨rfl, hr4, ho4⟩; have hb4 := only_below (B := w.heap.size + 1 + 1 + 1) ho4 (by have := HS3.out; omega); have HR4 := Lib.hid hr4; have HT4 := Lib.hid ((hb4.block (w.heap.size + 1) (by omega)).trans HT.out); have HO4 := Lib.hid ((hb4.block (w.heap.size + 1 + 1) (by omega)).trans HO.out); have HB4 := Lib.hid (HB.out.trans (hb4.mono (by omega))); clear hr4 ho4 hb4))
        clear hb1 hb2 hb3
        have ck : w4.cell? ⟨w.heap.size + 1 + 1, k, none⟩ = some (.int .i64 ((ptK l k).getD k 0)) := (cell_row HO4.out k).trans (ints_at _ _ _ (by rw [List.getD_eq_getElem?_getD, List.getElem?_eq_getElem (by rw [ptK_len l k hk]; exact hlt)]; rfl))
        have fk : w4.frozen? ⟨w.heap.size + 1 + 1, k, none⟩ = false := free_row HO4.out _
        go_wp2
        have hO5 := head_set HO4.out k (.int .i64 (n : Int))
        rw [ints_set, ← HN.out, ptK_next l k hlt, HN.out] at hO5
        have hR5 : RdrAt (w4.setCell ⟨w.heap.size + 1 + 1, k, none⟩ (.int .i64 (n : Int))) gr ⟨l, 4 * (k + 1), 0⟩ := ⟨HR4.out.1, HR4.out.2.1, (Below.heap_setCell w4 ⟨w.heap.size + 1 + 1, k, none⟩ _ gr (by show gr ≠ w.heap.size + 1 + 1; have := HS3.out; omega)).trans HR4.out.2.2⟩
        have HO5 := Lib.hid hO5
        have HR5 := Lib.hid hR5
        have HT5 := Lib.hid ((Below.heap_setCell w4 ⟨w.heap.size + 1 + 1, k, none⟩ (.int .i64 (n : Int)) (w.heap.size + 1) (by show w.heap.size + 1 ≠ w.heap.size + 1 + 1; omega)).trans HT4.out)
        have HB5 := Lib.hid (HB4.out.setCell (p := ⟨w.heap.size + 1 + 1, k, none⟩) (by show w.heap.size ≤ w.heap.size + 1 + 1; omega) (.int .i64 (n : Int)))
        have HG5 : Hid (∀ i, i < k + 1 → ptBig l i = false) := Lib.hid (fun i hi => by
          by_cases h : i = k
          · rw [h]; exact HBG.out
          · exact HG.out i (by omega))
        clear hO5 hR5
        go_roundw
        case rel => exact ⟨k + 1, by omega, by go_num, HR5, HO5, HT5, HG5, HB5⟩
        case measure => simp [intOf]; omega
    · obtain rfl : k = 32 := by omega
      have hyes : rptOk l = true := by
        unfold rptOk
        rw [List.all_eq_true]
        intro i hi
        rw [HG.out i (List.mem_range.1 hi)]; rfl
      have HYES := Lib.hid hyes
      have HV : Hid ((rptV l) = ptK l 32) := Lib.hid (by rw [rptV, hyes, if_pos rfl])
      have HS : Hid ((ints (ptK l 32)).toArray.size = 32) := Lib.hid (by rw [List.size_toArray, ints_len, ptK_len l 32 (Nat.le_refl _)])
      have H1 : Hid ((ints (ptK l 32)).toArray.all (·.oneCell') = true) := Lib.hid (ints_one _)
      obtain ⟨C, hC⟩ : ∃ C, (ints (ptK l 32)).toArray = C := ⟨_, rfl⟩
      rw [hC] at HO HS H1
      have HC := Lib.hid hC
      clear hyes hC
      go_wp2_with (first
        | (refine wpList_load_row rfl 54 (.tmp 4) rfl (w.heap.size + 1 + 1) rfl _ _ _ _ HO.out Try.underlying54 rfl (by rw [HS.out]; exact infoPtr) ?_)
        | (refine wpList_store_row rfl 54 (.tmp 2) (.tmp 23) rfl (w.heap.size + 1) _ C 54 rfl rfl HT.out (by rw [HS.out]; exact infoPtr) (by rw [HS.out, zP_size]) H1.out ?_))
      have hld := run_loadVar_row (P := Try.prog) (wr.setRow (w.heap.size + 1) C) (w.heap.size + 1) 54 54 C (0, 0) _ (setRow_heap _ _ _ _ _ _ HT.out) Try.underlying54 (by simp) (by rw [HS.out]; exact infoPtr)
      exact bodyPost_ret (v := .tuple #[.agg C, .int .i64 0]) (results_cell2 Try.results23 rfl rfl hld) rfl (rpT_yes HYES.out (by rw [HC.out]) (below_row HB.out (by omega)))
end Go.Proofs.Ytlcbfpcabalgcaa
