/-
  Codec: the program's WriteInode and ReadInode; an inode of the reference's.
-/
import Derived.Test.YtlcbfpcabalgcaaCodM
namespace Go.Proofs.Ytlcbfpcabalgcaa
open Go.RowKit
set_option linter.unusedVariables false
set_option linter.unusedSimpArgs false
set_option linter.unnecessarySimpa false
set_option maxRecDepth 10000 in
set_option maxHeartbeats 4000000 in
theorem among_any (n a b : Int) (w : World) : Calls Try.prog 61 #[.int .i64 n, .int .i64 a, .int .i64 b] w fun e w' => e = .returned (.bool (decide (a ≤ n ∧ n ≤ b))) ∧ w = w' := by
  by_cases h1 : a ≤ n
  · by_cases h2 : n ≤ b
    · have e : decide (a ≤ n ∧ n ≤ b) = true := by simp [h1, h2]
      rw [e]
      clear e
      go_enter Try.func61, Try.ntmps61
      go_wp2
      go_ret
      exact ⟨rfl, rfl⟩
    · have e : decide (a ≤ n ∧ n ≤ b) = false := by simp [h2]
      rw [e]
      clear e
      have h3 : b < n := by omega
      go_enter Try.func61, Try.ntmps61
      go_wp2
      go_ret
      exact ⟨rfl, rfl⟩
  · have e : decide (a ≤ n ∧ n ≤ b) = false := by simp [h1]
    rw [e]
    clear e
    go_enter Try.func61, Try.ntmps61
    go_wp2
    go_ret
    exact ⟨rfl, rfl⟩
set_option maxRecDepth 10000 in
set_option maxHeartbeats 4000000 in
theorem mayInode_any (C : Array Value) (kd : Int) (w : World) (hC : C[2]? = some (.int .i64 kd)) : Calls Try.prog 47 #[.agg C] w fun e w' => e = .returned (.bool (inoMay kd)) ∧ Below w.heap.size w w' := by
  have hb : Below w.heap.size w (w.alloc (.cells C 33 (0, 0))) := (Below.refl _ _).alloc (Nat.le_refl _) _
  have c2 : (w.alloc (.cells C 33 (0, 0))).cell? ⟨w.heap.size, 2, none⟩ = some (.int .i64 kd) := (cell_row (heap_alloc_last w _) 2).trans hC
  have HA := fun w' => Lib.hid (among_any kd 1 2 w')
  obtain ⟨m, hm⟩ : ∃ m, inoMay kd = m := ⟨_, rfl⟩
  have hm' : decide (1 ≤ kd ∧ kd ≤ 2) = m := hm
  rw [hm'] at HA
  rw [hm]
  have HB := Lib.hid hb
  clear hC hm hm' hb
  revert HB c2
  generalize hW : w.alloc (.cells C 33 (0, 0)) = w1
  intro c2 HB
  have HW := Lib.hid hW
  clear hW
  go_enter Try.func47, Try.ntmps47
  go_upto_region 1 with fail
  rw [HW.out]
  go_wp2_with (go_at_call 61; refine (HA _).out.mono ?_; rintro e w' ⟨rfl, rfl⟩)
  go_ret
  exact ⟨rfl, HB.out⟩
set_option maxRecDepth 10000 in
set_option maxHeartbeats 4000000 in
theorem writeInode_any (x : Ino) (w : World) (hx : x.Ok) : Calls Try.prog 11 #[.agg x.cells.toArray] w (WrS w 2 (inoMay x.kind && !fBad (inoL x)) (fB (inoL x))) := by
  have hwr := fun w' => wr_inode 2 x.cells.toArray (inoMay x.kind) (fB (inoL x)) (fBad (inoL x)) w' (ino_size x hx) (fun w2 _ => mayInode_any _ x.kind w2 (inoF_at2 x))
    (fun w2 base g pb _ hcw hpb hbs hpl => by
      have := pw_inode x pb hcw hx (fun i v hv => (cell_row hpb i).trans (by rw [List.getElem?_toArray]; exact hv)) (by simp) hbs hpl
      simpa using this)
  have hB1 : Below w.heap.size w ((w.alloc (.cells x.cells.toArray 33 (0, 0))).alloc (.cells Try.zeroCells29 29 (0, 0))) := ((Below.refl _ _).alloc (Nat.le_refl _) _).alloc (by simp) _
  have hG1 := old_heap (heap_alloc_last w (.cells x.cells.toArray 33 (0, 0))) ((Below.refl _ _).alloc (Nat.le_refl _) (.cells Try.zeroCells29 29 (0, 0)))
  have hT1 := heap_alloc_last (w.alloc (.cells x.cells.toArray 33 (0, 0))) (.cells Try.zeroCells29 29 (0, 0))
  rw [show (w.alloc (.cells x.cells.toArray 33 (0, 0))).heap.size = w.heap.size + 1 by simp] at hT1
  have HIS := Lib.hid (ino_size x hx)
  have HWR := fun w' => Lib.hid (hwr w')
  have HB1 := Lib.hid hB1
  have HG1 := Lib.hid hG1
  have HT1 := Lib.hid hT1
  clear hwr hB1 hG1 hT1 hx
  obtain ⟨C, hC⟩ : ∃ C, x.cells.toArray = C := ⟨_, rfl⟩
  obtain ⟨ok, hok⟩ : ∃ ok, (inoMay x.kind && !fBad (inoL x)) = ok := ⟨_, rfl⟩
  obtain ⟨L, hL⟩ : ∃ L, fB (inoL x) = L := ⟨_, rfl⟩
  simp only [hC, hok, hL] at HWR HB1 HG1 HT1 HIS ⊢
  clear hC hok hL
  have hS : (bvs (wrS 2 ok L)).toArray.size = 128 := by rw [secV_size, wrS_length]
  have HSS := Lib.hid hS
  clear hS
  unfold WrS at HWR
  go_enter Try.func11, Try.ntmps11
  go_upto_region 1 with fail
  revert HB1 HG1 HT1
  generalize (w.alloc (.cells C 33 (0, 0))).alloc (.cells Try.zeroCells29 29 (0, 0)) = w1
  intro HB1 HG1 HT1
  go_wp2_with (first
    | (refine wpList_load_row rfl 33 (.tmp 1) rfl w.heap.size rfl _ _ _ _ HG1.out Try.underlying33 rfl (by rw [HIS.out]; exact infoInode) ?_)
    | (go_at_call 45; refine (HWR _).out.mono ?_; rintro e w2 ⟨rfl, hb2⟩; unfold secV; have HT2 := Lib.hid (old_heap HT1.out hb2); have HB2 := Lib.hid (bnext HB1.out hb2); clear hb2)
    | (refine wpList_store_row rfl 29 (.tmp 2) (.tmp 6) rfl (w.heap.size + 1) zArr (bvs (wrS 2 ok L)).toArray 29 rfl rfl HT2.out (by rw [HSS.out]; exact size_sec) (by rw [HSS.out, zArr_size]) (sec_one _) ?_))
  have hld := run_loadVar_row (P := Try.prog) (w2.setRow (w.heap.size + 1) (bvs (wrS 2 ok L)).toArray) (w.heap.size + 1) 29 29 (bvs (wrS 2 ok L)).toArray (0, 0) _ (setRow_heap _ _ _ _ _ _ HT2.out) Try.underlying29 (by simp) (by rw [HSS.out]; exact size_sec)
  exact bodyPost_ret (v := .tuple #[secV (wrS 2 ok L), .int .i64 (wrE 2 ok L)]) (results_cell2 Try.results11 rfl rfl hld) rfl ⟨rfl, below_row HB2.out (by omega)⟩
def rinoE (l : List UInt8) : Int := if rinoOk l then 0 else 21
theorem rino_len (l : List UInt8) : (rino l).cells.toArray.size = 15 := by rw [List.size_toArray, rino, Ino.cells, inoF_len, rds_len l 8 (by omega)]
set_option maxRecDepth 10000 in
set_option maxHeartbeats 4000000 in
theorem readInode_any (l : List UInt8) (w : World) (hl : l.length = 128) : Calls Try.prog 14 #[secV l] w fun e w' => e = .returned (.tuple #[.agg (rinoV l).cells.toArray, .int .i64 (rinoE l)]) ∧ Below w.heap.size w w' := by
  have hrd := fun w' => rd_inode ZI rfl 2 l (rino (openL l)).cells.toArray 55 (inoMay (rN (openL l) 6 1 : Int)) (decide ((openL l).length < 55)) w' hl (rino_len _) (inoF_one _ _ _ _ _ _ _ _)
    (fun w2 => mayInode_any _ _ w2 (inoF_at2 (rino (openL l))))
    (fun w2 g v pb hcr hpb hpg hap => pr_inode pb _ hcr (Nat.le_trans (openL_le l) (by decide)) hpb hpg hap)
  have hok : ((openB l && decide (openK l = 2)) && ((!decide ((openL l).length < 55) && decide (55 = (openL l).length)) && inoMay (rN (openL l) 6 1 : Int))) = rinoOk l := by
    unfold rinoOk
    have : (!decide ((openL l).length < 55) && decide (55 = (openL l).length)) = decide ((openL l).length = 55) := by
      rw [Bool.eq_iff_iff]; simp; omega
    rw [this, ← Bool.and_assoc]
  simp only [hok] at hrd
  have hV : Array.mk (rinoV l).cells = (if rinoOk l then (rino (openL l)).cells.toArray else ZI) := by unfold rinoV; split; rfl; exact zIno_cells
  have hsz : (rinoV l).cells.toArray.size = 15 := by unfold rinoV; split; exact rino_len _; rfl
  have hone : (rinoV l).cells.toArray.all (·.oneCell') = true := inoF_one _ _ _ _ _ _ _ _
  have hrd2 : ∀ w', Calls Try.prog 50 #[.int .u8 2, secV l, .func (.func 46) #[] #[], .func (.func 47) #[] #[]] w' fun e w'' => e = .returned (.tuple #[.agg (rinoV l).cells.toArray, .int .i64 (rinoE l)]) ∧ Below w'.heap.size w' w'' := fun w' => (hrd w').mono fun e w'' h => by
    refine ⟨?_, h.2⟩
    rw [h.1]
    unfold rinoE
    rw [← hV]
  have HRD := fun w' => Lib.hid (hrd2 w')
  have HSZ : Hid ((bvs l).toArray.size = 128) := by unfold Hid; rw [secV_size, hl]
  obtain ⟨C, hC⟩ : ∃ C, (rinoV l).cells.toArray = C := ⟨_, rfl⟩
  obtain ⟨N, hN⟩ : ∃ N, rinoE l = N := ⟨_, rfl⟩
  simp only [hC, hN] at HRD ⊢
  rw [hC] at hsz hone
  have HS := Lib.hid hsz
  have H1 := Lib.hid hone
  have hB1 : Below w.heap.size w ((w.alloc (.cells (bvs l).toArray 29 (0, 0))).alloc (.cells #[.int .u32 0, .int .u32 0, .int .i64 0, .int .i64 0, .int .u32 0, .int .i64 0, .int .i64 0, .int .i64 0, .int .i64 0, .int .i64 0, .int .i64 0, .int .i64 0, .int .i64 0, .int .i64 0, .int .i64 0] 33 (0, 0))) := ((Below.refl _ _).alloc (Nat.le_refl _) _).alloc (by simp) _
  have hG1 := old_heap (heap_alloc_last w (.cells (bvs l).toArray 29 (0, 0))) ((Below.refl _ _).alloc (Nat.le_refl _) (.cells #[.int .u32 0, .int .u32 0, .int .i64 0, .int .i64 0, .int .u32 0, .int .i64 0, .int .i64 0, .int .i64 0, .int .i64 0, .int .i64 0, .int .i64 0, .int .i64 0, .int .i64 0, .int .i64 0, .int .i64 0] 33 (0, 0)))
  have hT1 := heap_alloc_last (w.alloc (.cells (bvs l).toArray 29 (0, 0))) (.cells #[.int .u32 0, .int .u32 0, .int .i64 0, .int .i64 0, .int .u32 0, .int .i64 0, .int .i64 0, .int .i64 0, .int .i64 0, .int .i64 0, .int .i64 0, .int .i64 0, .int .i64 0, .int .i64 0, .int .i64 0] 33 (0, 0))
  rw [show (w.alloc (.cells (bvs l).toArray 29 (0, 0))).heap.size = w.heap.size + 1 by simp] at hT1
  have HB1 := Lib.hid hB1
  have HG1 := Lib.hid hG1
  have HT1 := Lib.hid hT1
  clear hrd hok hV hrd2 hC hN hsz hone hB1 hG1 hT1 hl
  unfold secV at HRD ⊢
  go_enter Try.func14, Try.ntmps14
  go_upto_region 1 with fail
  revert HB1 HG1 HT1
  generalize (w.alloc (.cells (bvs l).toArray 29 (0, 0))).alloc (.cells _ 33 (0, 0)) = w1
  intro HB1 HG1 HT1
  go_wp2_with (first
    | (refine wpList_load_row rfl 29 (.tmp 1) rfl w.heap.size rfl _ _ _ _ HG1.out Try.underlying29 rfl (by rw [HSZ.out]; exact size_sec) ?_)
    | (go_at_call 50; refine (HRD _).out.mono ?_; rintro e w2 ⟨rfl, hb2⟩; have HT2 := Lib.hid (old_heap HT1.out hb2); have HB2 := Lib.hid (bnext HB1.out hb2); clear hb2)
    | (refine wpList_store_row rfl 33 (.tmp 2) (.tmp 6) rfl (w.heap.size + 1) _ C 33 rfl rfl HT2.out (by rw [HS.out]; exact infoInode) (by rw [HS.out]; rfl) H1.out ?_))
  have hld := run_loadVar_row (P := Try.prog) (w2.setRow (w.heap.size + 1) C) (w.heap.size + 1) 33 33 C (0, 0) _ (setRow_heap _ _ _ _ _ _ HT2.out) Try.underlying33 (by simp) (by rw [HS.out]; exact infoInode)
  exact bodyPost_ret (v := .tuple #[.agg C, .int .i64 N]) (results_cell2 Try.results14 rfl rfl hld) rfl ⟨rfl, below_row HB2.out (by omega)⟩
set_option maxRecDepth 10000 in
set_option maxHeartbeats 4000000 in
theorem linode_any (x : Ino) (w : World) (hx : x.Ok) : Calls Try.prog 12 #[.agg x.cells.toArray] w fun e w' => e = .returned (.agg x.cells.toArray) ∧ Below w.heap.size w w' := by
  obtain ⟨num, ver, kind, size, time, ds, single, dbl⟩ := x
  have hlen := hx.len
  dsimp only at hlen
  obtain ⟨d0, d1, d2, d3, d4, d5, d6, d7, rfl⟩ : ∃ d0 d1 d2 d3 d4 d5 d6 d7, ds = [d0, d1, d2, d3, d4, d5, d6, d7] := by
    match ds, hlen with
    | [d0, d1, d2, d3, d4, d5, d6, d7], _ => exact ⟨_, _, _, _, _, _, _, _, rfl⟩
  clear hlen hx
  have hc : (Ino.mk num ver kind size time [d0, d1, d2, d3, d4, d5, d6, d7] single dbl).cells.toArray = #[.int .u32 (num : Int), .int .u32 (ver : Int), .int .i64 kind, .int .i64 size, .int .u32 (time : Int), .int .i64 d0, .int .i64 d1, .int .i64 d2, .int .i64 d3, .int .i64 d4, .int .i64 d5, .int .i64 d6, .int .i64 d7, .int .i64 single, .int .i64 dbl] := rfl
  rw [hc]
  clear hc
  go_enter Try.func12, Try.ntmps12
  go_wp2
  have hT := heap_alloc_last (w.alloc (.cells #[.int .u32 (num : Int), .int .u32 (ver : Int), .int .i64 kind, .int .i64 size, .int .u32 (time : Int), .int .i64 d0, .int .i64 d1, .int .i64 d2, .int .i64 d3, .int .i64 d4, .int .i64 d5, .int .i64 d6, .int .i64 d7, .int .i64 single, .int .i64 dbl] 25 (0, 0))) (.cells #[.int .u32 (num : Int), .int .u32 (ver : Int), .int .i64 kind, .int .i64 size, .int .u32 (time : Int), .int .i64 d0, .int .i64 d1, .int .i64 d2, .int .i64 d3, .int .i64 d4, .int .i64 d5, .int .i64 d6, .int .i64 d7, .int .i64 single, .int .i64 dbl] 33 (0, 0))
  rw [show (w.alloc (.cells #[.int .u32 (num : Int), .int .u32 (ver : Int), .int .i64 kind, .int .i64 size, .int .u32 (time : Int), .int .i64 d0, .int .i64 d1, .int .i64 d2, .int .i64 d3, .int .i64 d4, .int .i64 d5, .int .i64 d6, .int .i64 d7, .int .i64 single, .int .i64 dbl] 25 (0, 0))).heap.size = w.heap.size + 1 by simp] at hT
  have hld := run_loadVar_row (P := Try.prog) _ (w.heap.size + 1) 33 33 _ (0, 0) _ hT Try.underlying33 (by simp) infoInode
  exact bodyPost_ret (results_cell1 Try.results12 rfl hld) rfl ⟨rfl, ((Below.refl _ _).alloc (Nat.le_refl _) _).alloc (by simp) _⟩
end Go.Proofs.Ytlcbfpcabalgcaa
