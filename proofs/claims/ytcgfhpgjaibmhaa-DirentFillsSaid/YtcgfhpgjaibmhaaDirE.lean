/-
  Entries: the law's own, entry by entry.
-/
import Derived.Test.YtcgfhpgjaibmhaaDirD
namespace Go.Proofs.Ytcgfhpgjaibmhaa
open Go.RowKit
set_option linter.unusedVariables false
set_option linter.unusedSimpArgs false
theorem run_index_rent (w : World) (cs : Array Value) (j : Nat) (hj : j < 4) : (Instr.index 29 (.agg cs) (.int .i64 (j : Int))).run Try.prog w = .ok (.agg (cs.extract (j * 2) (j * 2 + 2))) w := by
  obtain ⟨i, hi⟩ := info_of_underlying (P := Try.prog) Try.underlying28
  have hc : Try.prog.cellsOf 28 = 2 := by kernel_rfl
  have h1 : (0 : Int) ≤ (j : Int) ∧ (j : Int) < 4 := by omega
  simp [Instr.index, asIntOf, run_underlying Try.underlying29, run_underlying Try.underlying28, Go.part, isAgg, run_sizeOf _ hi, hc, h1, hj]
theorem size_ents : (Try.prog.info? 31).map (·.size) = some 8 := by kernel_rfl
def mixA (n0 n1 n2 n3 : Int) (s0 s1 s2 s3 : ByteArray) : Nat → Array Value
  | 0 => #[.int .i64 0, .string ⟨#[]⟩, .int .i64 0, .string ⟨#[]⟩, .int .i64 0, .string ⟨#[]⟩, .int .i64 0, .string ⟨#[]⟩]
  | 1 => #[.int .i64 n0, .string s0, .int .i64 0, .string ⟨#[]⟩, .int .i64 0, .string ⟨#[]⟩, .int .i64 0, .string ⟨#[]⟩]
  | 2 => #[.int .i64 n0, .string s0, .int .i64 n1, .string s1, .int .i64 0, .string ⟨#[]⟩, .int .i64 0, .string ⟨#[]⟩]
  | 3 => #[.int .i64 n0, .string s0, .int .i64 n1, .string s1, .int .i64 n2, .string s2, .int .i64 0, .string ⟨#[]⟩]
  | _ => #[.int .i64 n0, .string s0, .int .i64 n1, .string s1, .int .i64 n2, .string s2, .int .i64 n3, .string s3]
set_option maxHeartbeats 2000000 in
set_option maxRecDepth 10000 in
theorem dirown_any (n0 n1 n2 n3 : Int) (s0 s1 s2 s3 : ByteArray) (w : World) :
    Calls Try.prog 11 #[entsV (n0, s0) (n1, s1) (n2, s2) (n3, s3)] w fun e w' => e = .returned (entsV (n0, s0) (n1, s1) (n2, s2) (n3, s3)) ∧ Below w.heap.size w w' := by
  unfold entsV
  go_enter Try.func11, Try.ntmps11
  go_upto_region 2 with fail
  go_wp2
  have hT3 : (((w.alloc (.cells #[.int .i64 n0, .string s0, .int .i64 n1, .string s1, .int .i64 n2, .string s2, .int .i64 n3, .string s3] 29 (0, 0))).alloc (.cells #[.int .i64 0, .string ⟨#[]⟩, .int .i64 0, .string ⟨#[]⟩, .int .i64 0, .string ⟨#[]⟩, .int .i64 0, .string ⟨#[]⟩] 31 (0, 0))).alloc (.cells #[.int .i64 0, .string ⟨#[]⟩, .int .i64 0, .string ⟨#[]⟩, .int .i64 0, .string ⟨#[]⟩, .int .i64 0, .string ⟨#[]⟩] 31 (0, 0))).heap[w.heap.size + 1]? = some (.cells #[.int .i64 0, .string ⟨#[]⟩, .int .i64 0, .string ⟨#[]⟩, .int .i64 0, .string ⟨#[]⟩, .int .i64 0, .string ⟨#[]⟩] 31 (0, 0)) := by
    have h1 := heap_alloc_last (w.alloc (.cells #[.int .i64 n0, .string s0, .int .i64 n1, .string s1, .int .i64 n2, .string s2, .int .i64 n3, .string s3] 29 (0, 0))) (.cells #[.int .i64 0, .string ⟨#[]⟩, .int .i64 0, .string ⟨#[]⟩, .int .i64 0, .string ⟨#[]⟩, .int .i64 0, .string ⟨#[]⟩] 31 (0, 0))
    rw [show (w.alloc (.cells #[.int .i64 n0, .string s0, .int .i64 n1, .string s1, .int .i64 n2, .string s2, .int .i64 n3, .string s3] 29 (0, 0))).heap.size = w.heap.size + 1 by simp] at h1
    exact heap_keep h1 ((Below.refl _ _).alloc (Nat.le_refl _) _)
  have hX3 : (((w.alloc (.cells #[.int .i64 n0, .string s0, .int .i64 n1, .string s1, .int .i64 n2, .string s2, .int .i64 n3, .string s3] 29 (0, 0))).alloc (.cells #[.int .i64 0, .string ⟨#[]⟩, .int .i64 0, .string ⟨#[]⟩, .int .i64 0, .string ⟨#[]⟩, .int .i64 0, .string ⟨#[]⟩] 31 (0, 0))).alloc (.cells #[.int .i64 0, .string ⟨#[]⟩, .int .i64 0, .string ⟨#[]⟩, .int .i64 0, .string ⟨#[]⟩, .int .i64 0, .string ⟨#[]⟩] 31 (0, 0))).heap[w.heap.size + 1 + 1]? = some (.cells #[.int .i64 0, .string ⟨#[]⟩, .int .i64 0, .string ⟨#[]⟩, .int .i64 0, .string ⟨#[]⟩, .int .i64 0, .string ⟨#[]⟩] 31 (0, 0)) := by
    have h1 := heap_alloc_last ((w.alloc (.cells #[.int .i64 n0, .string s0, .int .i64 n1, .string s1, .int .i64 n2, .string s2, .int .i64 n3, .string s3] 29 (0, 0))).alloc (.cells #[.int .i64 0, .string ⟨#[]⟩, .int .i64 0, .string ⟨#[]⟩, .int .i64 0, .string ⟨#[]⟩, .int .i64 0, .string ⟨#[]⟩] 31 (0, 0))) (.cells #[.int .i64 0, .string ⟨#[]⟩, .int .i64 0, .string ⟨#[]⟩, .int .i64 0, .string ⟨#[]⟩, .int .i64 0, .string ⟨#[]⟩] 31 (0, 0))
    rw [show ((w.alloc (.cells #[.int .i64 n0, .string s0, .int .i64 n1, .string s1, .int .i64 n2, .string s2, .int .i64 n3, .string s3] 29 (0, 0))).alloc (.cells #[.int .i64 0, .string ⟨#[]⟩, .int .i64 0, .string ⟨#[]⟩, .int .i64 0, .string ⟨#[]⟩, .int .i64 0, .string ⟨#[]⟩] 31 (0, 0))).heap.size = w.heap.size + 1 + 1 by simp] at h1
    exact h1
  have hB3 : Below w.heap.size w (((w.alloc (.cells #[.int .i64 n0, .string s0, .int .i64 n1, .string s1, .int .i64 n2, .string s2, .int .i64 n3, .string s3] 29 (0, 0))).alloc (.cells #[.int .i64 0, .string ⟨#[]⟩, .int .i64 0, .string ⟨#[]⟩, .int .i64 0, .string ⟨#[]⟩, .int .i64 0, .string ⟨#[]⟩] 31 (0, 0))).alloc (.cells #[.int .i64 0, .string ⟨#[]⟩, .int .i64 0, .string ⟨#[]⟩, .int .i64 0, .string ⟨#[]⟩, .int .i64 0, .string ⟨#[]⟩] 31 (0, 0))) := (((Below.refl _ _).alloc (Nat.le_refl _) _).alloc (by simp) _).alloc (by simp; omega) _
  revert hT3 hX3 hB3
  generalize ((w.alloc (.cells #[.int .i64 n0, .string s0, .int .i64 n1, .string s1, .int .i64 n2, .string s2, .int .i64 n3, .string s3] 29 (0, 0))).alloc (.cells #[.int .i64 0, .string ⟨#[]⟩, .int .i64 0, .string ⟨#[]⟩, .int .i64 0, .string ⟨#[]⟩, .int .i64 0, .string ⟨#[]⟩] 31 (0, 0))).alloc (.cells #[.int .i64 0, .string ⟨#[]⟩, .int .i64 0, .string ⟨#[]⟩, .int .i64 0, .string ⟨#[]⟩, .int .i64 0, .string ⟨#[]⟩] 31 (0, 0)) = w3
  generalize hgw : w.heap.size + 1 + 1 = gw
  intro hT3 hX3 hB3
  have HT3 := Lib.hid hT3
  have HX3 := Lib.hid hX3
  have HB3 := Lib.hid hB3
  have HGW := Lib.hid hgw
  clear hT3 hX3 hB3 hgw
  go_loopw [4, 5, 7] (fun _ _ i wr => ∃ j : Nat, j ≤ 4 ∧ i = .int .i64 j ∧ Hid (wr.heap[gw]? = some (.cells (mixA n0 n1 n2 n3 s0 s1 s2 s3 j) 31 (0, 0))) ∧ Hid (Below gw w3 wr)) (fun _ _ i _ => (4 - intOf i).toNat)
  case atStart => exact ⟨0, by omega, by rfl, HX3, Lib.hid (Below.refl _ _)⟩
  case round =>
    obtain ⟨j, hj, rfl, HG, HB⟩ := hrel
    have hlt : gw < wr.heap.size := (Array.getElem?_eq_some_iff.1 HG.out).1
    have HLT := Lib.hid hlt
    clear hlt
    by_cases hj4 : j = 4
    · subst hj4
      go_upto_region 7 with fail
      have hT := (HB.out.block (w.heap.size + 1) (by have := HGW.out; omega)).trans HT3.out
      have HT := Lib.hid hT
      obtain ⟨cs, hcs⟩ : ∃ cs, cs = mixA n0 n1 n2 n3 s0 s1 s2 s3 4 := ⟨_, rfl⟩
      rw [← hcs] at HG
      have hc8 : cs.size = 8 := by rw [hcs]; rfl
      have hc1 : cs.all (·.oneCell') = true := by rw [hcs]; simp [mixA, Value.oneCell']
      have HCS := Lib.hid hcs
      have H8 := Lib.hid hc8
      have H1 := Lib.hid hc1
      clear hT hcs hc8 hc1
      go_wp2_with (first
        | (refine wpList_load_row rfl 31 (.tmp 3) rfl gw rfl _ _ _ _ HG.out Try.underlying31 rfl (by rw [H8.out]; exact size_ents) ?_)
        | (refine wpList_store_row rfl 31 (.tmp 2) (.tmp 19) rfl (w.heap.size + 1) _ cs 31 rfl rfl HT.out (by rw [H8.out]; exact size_ents) (by rw [H8.out]; rfl) H1.out ?_))
      have hld := run_loadVar_row (P := Try.prog) (wr.setRow (w.heap.size + 1) cs) (w.heap.size + 1) 31 31 cs (0, 0) _ (setRow_heap _ _ _ _ _ _ HT.out) Try.underlying31 (by simp) (by rw [H8.out]; exact size_ents)
      refine bodyPost_ret (v := .agg cs) (results_cell1 Try.results11 rfl hld) rfl ⟨by rw [HCS.out]; rfl, ?_⟩
      have hbw := HB3.out.trans (HB.out.mono (by have := HGW.out; omega))
      exact hbw.trans ⟨rfl, rfl, rfl, by rw [setRow_size]; exact Nat.le_refl _, fun k hk => setRow_other _ _ _ _ (by omega)⟩
    · have hjc : j = 0 ∨ j = 1 ∨ j = 2 ∨ j = 3 := by omega
      rcases hjc with rfl | rfl | rfl | rfl
      · have hix : ∀ W : World, (Instr.index 29 (.agg #[.int .i64 n0, .string s0, .int .i64 n1, .string s1, .int .i64 n2, .string s2, .int .i64 n3, .string s3]) (.int .i64 0)).run Try.prog W = .ok (.agg #[.int .i64 n0, .string s0]) W := fun W => run_index_rent W _ 0 (by decide)
        have hg' := heap_keep HG.out ((Below.refl wr.heap.size wr).alloc (Nat.le_refl _) (.cells #[.int .i64 n0, .string s0] 28 (0, 0)))
        have hb' : Below gw w3 (wr.alloc (.cells #[.int .i64 n0, .string s0] 28 (0, 0))) := HB.out.alloc (Nat.le_of_lt HLT.out) _
        have d0 : (wr.alloc (.cells #[.int .i64 n0, .string s0] 28 (0, 0))).cell? ⟨gw, 0, none⟩ = some (.int .i64 0) := by rw [cell_row hg']; rfl
        have d1 : (wr.alloc (.cells #[.int .i64 n0, .string s0] 28 (0, 0))).cell? ⟨gw, 1, none⟩ = some (.string ⟨#[]⟩) := by rw [cell_row hg']; rfl
        have e0 : (wr.alloc (.cells #[.int .i64 n0, .string s0] 28 (0, 0))).frozen? ⟨gw, 0, none⟩ = false := free_row hg' _
        have e1 : (wr.alloc (.cells #[.int .i64 n0, .string s0] 28 (0, 0))).frozen? ⟨gw, 1, none⟩ = false := free_row hg' _
        have hst : ((wr.alloc (.cells #[.int .i64 n0, .string s0] 28 (0, 0))).setCell ⟨gw, 0, none⟩ (.int .i64 n0)).setCell ⟨gw, 1, none⟩ (.string s0) = (wr.alloc (.cells #[.int .i64 n0, .string s0] 28 (0, 0))).setRow gw (mixA n0 n1 n2 n3 s0 s1 s2 s3 (0 + 1)) := by
          rw [setCell_row hg', setRow_setCell hg']; rfl
        have HST := Lib.hid hst
        have HG' := Lib.hid hg'
        have HB' := Lib.hid hb'
        clear hst hg' hb'
        go_wp2
        rw [HST.out]
        exact ⟨⟨0 + 1, by omega, by rfl, Lib.hid (setRow_heap _ _ _ _ _ _ HG'.out), Lib.hid (HB'.out.trans ⟨rfl, rfl, rfl, by rw [setRow_size]; exact Nat.le_refl _, fun k hk => setRow_other _ _ _ _ (by omega)⟩)⟩, by simp [intOf]⟩
      · have hix : ∀ W : World, (Instr.index 29 (.agg #[.int .i64 n0, .string s0, .int .i64 n1, .string s1, .int .i64 n2, .string s2, .int .i64 n3, .string s3]) (.int .i64 1)).run Try.prog W = .ok (.agg #[.int .i64 n1, .string s1]) W := fun W => run_index_rent W _ 1 (by decide)
        have hg' := heap_keep HG.out ((Below.refl wr.heap.size wr).alloc (Nat.le_refl _) (.cells #[.int .i64 n1, .string s1] 28 (0, 0)))
        have hb' : Below gw w3 (wr.alloc (.cells #[.int .i64 n1, .string s1] 28 (0, 0))) := HB.out.alloc (Nat.le_of_lt HLT.out) _
        have d0 : (wr.alloc (.cells #[.int .i64 n1, .string s1] 28 (0, 0))).cell? ⟨gw, 2, none⟩ = some (.int .i64 0) := by rw [cell_row hg']; rfl
        have d1 : (wr.alloc (.cells #[.int .i64 n1, .string s1] 28 (0, 0))).cell? ⟨gw, 3, none⟩ = some (.string ⟨#[]⟩) := by rw [cell_row hg']; rfl
        have e0 : (wr.alloc (.cells #[.int .i64 n1, .string s1] 28 (0, 0))).frozen? ⟨gw, 2, none⟩ = false := free_row hg' _
        have e1 : (wr.alloc (.cells #[.int .i64 n1, .string s1] 28 (0, 0))).frozen? ⟨gw, 3, none⟩ = false := free_row hg' _
        have hst : ((wr.alloc (.cells #[.int .i64 n1, .string s1] 28 (0, 0))).setCell ⟨gw, 2, none⟩ (.int .i64 n1)).setCell ⟨gw, 3, none⟩ (.string s1) = (wr.alloc (.cells #[.int .i64 n1, .string s1] 28 (0, 0))).setRow gw (mixA n0 n1 n2 n3 s0 s1 s2 s3 (1 + 1)) := by
          rw [setCell_row hg', setRow_setCell hg']; rfl
        have HST := Lib.hid hst
        have HG' := Lib.hid hg'
        have HB' := Lib.hid hb'
        clear hst hg' hb'
        go_wp2
        rw [HST.out]
        exact ⟨⟨1 + 1, by omega, by rfl, Lib.hid (setRow_heap _ _ _ _ _ _ HG'.out), Lib.hid (HB'.out.trans ⟨rfl, rfl, rfl, by rw [setRow_size]; exact Nat.le_refl _, fun k hk => setRow_other _ _ _ _ (by omega)⟩)⟩, by simp [intOf]⟩
      · have hix : ∀ W : World, (Instr.index 29 (.agg #[.int .i64 n0, .string s0, .int .i64 n1, .string s1, .int .i64 n2, .string s2, .int .i64 n3, .string s3]) (.int .i64 2)).run Try.prog W = .ok (.agg #[.int .i64 n2, .string s2]) W := fun W => run_index_rent W _ 2 (by decide)
        have hg' := heap_keep HG.out ((Below.refl wr.heap.size wr).alloc (Nat.le_refl _) (.cells #[.int .i64 n2, .string s2] 28 (0, 0)))
        have hb' : Below gw w3 (wr.alloc (.cells #[.int .i64 n2, .string s2] 28 (0, 0))) := HB.out.alloc (Nat.le_of_lt HLT.out) _
        have d0 : (wr.alloc (.cells #[.int .i64 n2, .string s2] 28 (0, 0))).cell? ⟨gw, 4, none⟩ = some (.int .i64 0) := by rw [cell_row hg']; rfl
        have d1 : (wr.alloc (.cells #[.int .i64 n2, .string s2] 28 (0, 0))).cell? ⟨gw, 5, none⟩ = some (.string ⟨#[]⟩) := by rw [cell_row hg']; rfl
        have e0 : (wr.alloc (.cells #[.int .i64 n2, .string s2] 28 (0, 0))).frozen? ⟨gw, 4, none⟩ = false := free_row hg' _
        have e1 : (wr.alloc (.cells #[.int .i64 n2, .string s2] 28 (0, 0))).frozen? ⟨gw, 5, none⟩ = false := free_row hg' _
        have hst : ((wr.alloc (.cells #[.int .i64 n2, .string s2] 28 (0, 0))).setCell ⟨gw, 4, none⟩ (.int .i64 n2)).setCell ⟨gw, 5, none⟩ (.string s2) = (wr.alloc (.cells #[.int .i64 n2, .string s2] 28 (0, 0))).setRow gw (mixA n0 n1 n2 n3 s0 s1 s2 s3 (2 + 1)) := by
          rw [setCell_row hg', setRow_setCell hg']; rfl
        have HST := Lib.hid hst
        have HG' := Lib.hid hg'
        have HB' := Lib.hid hb'
        clear hst hg' hb'
        go_wp2
        rw [HST.out]
        exact ⟨⟨2 + 1, by omega, by rfl, Lib.hid (setRow_heap _ _ _ _ _ _ HG'.out), Lib.hid (HB'.out.trans ⟨rfl, rfl, rfl, by rw [setRow_size]; exact Nat.le_refl _, fun k hk => setRow_other _ _ _ _ (by omega)⟩)⟩, by simp [intOf]⟩
      · have hix : ∀ W : World, (Instr.index 29 (.agg #[.int .i64 n0, .string s0, .int .i64 n1, .string s1, .int .i64 n2, .string s2, .int .i64 n3, .string s3]) (.int .i64 3)).run Try.prog W = .ok (.agg #[.int .i64 n3, .string s3]) W := fun W => run_index_rent W _ 3 (by decide)
        have hg' := heap_keep HG.out ((Below.refl wr.heap.size wr).alloc (Nat.le_refl _) (.cells #[.int .i64 n3, .string s3] 28 (0, 0)))
        have hb' : Below gw w3 (wr.alloc (.cells #[.int .i64 n3, .string s3] 28 (0, 0))) := HB.out.alloc (Nat.le_of_lt HLT.out) _
        have d0 : (wr.alloc (.cells #[.int .i64 n3, .string s3] 28 (0, 0))).cell? ⟨gw, 6, none⟩ = some (.int .i64 0) := by rw [cell_row hg']; rfl
        have d1 : (wr.alloc (.cells #[.int .i64 n3, .string s3] 28 (0, 0))).cell? ⟨gw, 7, none⟩ = some (.string ⟨#[]⟩) := by rw [cell_row hg']; rfl
        have e0 : (wr.alloc (.cells #[.int .i64 n3, .string s3] 28 (0, 0))).frozen? ⟨gw, 6, none⟩ = false := free_row hg' _
        have e1 : (wr.alloc (.cells #[.int .i64 n3, .string s3] 28 (0, 0))).frozen? ⟨gw, 7, none⟩ = false := free_row hg' _
        have hst : ((wr.alloc (.cells #[.int .i64 n3, .string s3] 28 (0, 0))).setCell ⟨gw, 6, none⟩ (.int .i64 n3)).setCell ⟨gw, 7, none⟩ (.string s3) = (wr.alloc (.cells #[.int .i64 n3, .string s3] 28 (0, 0))).setRow gw (mixA n0 n1 n2 n3 s0 s1 s2 s3 (3 + 1)) := by
          rw [setCell_row hg', setRow_setCell hg']; rfl
        have HST := Lib.hid hst
        have HG' := Lib.hid hg'
        have HB' := Lib.hid hb'
        clear hst hg' hb'
        go_wp2
        rw [HST.out]
        exact ⟨⟨3 + 1, by omega, by rfl, Lib.hid (setRow_heap _ _ _ _ _ _ HG'.out), Lib.hid (HB'.out.trans ⟨rfl, rfl, rfl, by rw [setRow_size]; exact Nat.le_refl _, fun k hk => setRow_other _ _ _ _ (by omega)⟩)⟩, by simp [intOf]⟩
end Go.Proofs.Ytcgfhpgjaibmhaa
