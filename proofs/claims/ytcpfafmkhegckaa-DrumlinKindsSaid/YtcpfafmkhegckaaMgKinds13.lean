/-
  A block of a directory is written: the walk of dirent.Write.
-/
import Derived.Test.YtcpfafmkhegckaaMgKinds12
import Derived.Deep.DeepMust
import Derived.Test.YtcpfafmkhegckaaMgKinds11
import Derived.Test.YtcpfafmkhegckaaMgKinds4
import Derived.Test.YtcpfafmkhegckaaMgKinds0
namespace Go.Proofs.Ytcpfafmkhegckaa
open Go.RowKit
set_option linter.unusedVariables false
set_option linter.unusedSimpArgs false
def entsOk (l : List Ent) : Bool := entOk (l.getD 0 (0, .empty)) && entOk (l.getD 1 (0, .empty)) && entOk (l.getD 2 (0, .empty)) && entOk (l.getD 3 (0, .empty))
def dwS (l : List Ent) : List UInt8 := if entsOk l then entsB l 4 else List.replicate 128 0
def dwE (l : List Ent) : Int := if entsOk l then 0 else 1
/-- Four entries as a value. -/
def entsV (e0 e1 e2 e3 : Ent) : Value := .agg #[.int .i64 e0.1, .string e0.2, .int .i64 e1.1, .string e1.2, .int .i64 e2.1, .string e2.2, .int .i64 e3.1, .string e3.2]
theorem only_cell {g b : Nat} {w w' : World} (h : OnlyAt g w w') (hb : b < w.heap.size) (hne : b ≠ g) (i : Nat) : w'.cell? ⟨b, i, none⟩ = w.cell? ⟨b, i, none⟩ :=
  World.cell?_of_block (a := ⟨b, i, none⟩) (h.1.block b hb (by simp; exact hne))
theorem run_index_ent (w : World) (cs : Array Value) (j : Nat) (hj : j < 4) : (Instr.index 70 (.agg cs) (.int .i64 (j : Int))).run Try.prog w = .ok (.agg (cs.extract (j * 2) (j * 2 + 2))) w := by
  obtain ⟨i, hi⟩ := info_of_underlying (P := Try.prog) Try.underlying69
  have hc : Try.prog.cellsOf 69 = 2 := by kernel_rfl
  have h1 : (0 : Int) ≤ (j : Int) ∧ (j : Int) < 4 := by omega
  simp [Instr.index, asIntOf, run_underlying Try.underlying70, run_underlying Try.underlying69, Go.part, isAgg, run_sizeOf _ hi, hc, h1, hj]
theorem ents_len (l : List Ent) (j : Nat) (hj : j ≤ 4) (h : ∀ i, i < j → entOk (l.getD i (0, .empty)) = true) : (entsB l j).length = 32 * j := by
  induction j with
  | zero => rfl
  | succ j ih =>
    obtain ⟨k, _, _, h26⟩ := may_bounds (h j (by omega))
    simp only [entsB, List.length_append, ih (by omega) (fun i hi => h i (by omega)), entBs, entB_length _ _ h26]; omega
set_option maxHeartbeats 4000000 in
set_option maxRecDepth 10000 in
theorem dwrite_any (n0 n1 n2 n3 : Int) (s0 s1 s2 s3 : ByteArray) (w : World) :
    Calls Try.prog 25 #[entsV (n0, s0) (n1, s1) (n2, s2) (n3, s3)] w fun e w' => e = .returned (.tuple #[secV (dwS [(n0, s0), (n1, s1), (n2, s2), (n3, s3)]), .int .i64 (dwE [(n0, s0), (n1, s1), (n2, s2), (n3, s3)])]) ∧ Below w.heap.size w w' := by
  have hz := zero_sec
  have hzw := zero_writer
  unfold entsV
  go_enter Try.func25, Try.ntmps25
  go_upto_region 2 with fail
  go_wp2
  have hT3 : (((w.alloc (.cells #[.int .i64 n0, .string s0, .int .i64 n1, .string s1, .int .i64 n2, .string s2, .int .i64 n3, .string s3] 70 (0, 0))).alloc (.cells zArr 36 (0, 0))).alloc (.cells (wrCells ([], 0)) 114 (0, 0))).heap[w.heap.size + 1]? = some (.cells zArr 36 (0, 0)) := by
    have h1 := heap_alloc_last (w.alloc (.cells #[.int .i64 n0, .string s0, .int .i64 n1, .string s1, .int .i64 n2, .string s2, .int .i64 n3, .string s3] 70 (0, 0))) (.cells zArr 36 (0, 0))
    rw [show (w.alloc (.cells #[.int .i64 n0, .string s0, .int .i64 n1, .string s1, .int .i64 n2, .string s2, .int .i64 n3, .string s3] 70 (0, 0))).heap.size = w.heap.size + 1 by simp] at h1
    exact heap_keep h1 ((Below.refl _ _).alloc (Nat.le_refl _) _)
  have hW3 : WrAt (((w.alloc (.cells #[.int .i64 n0, .string s0, .int .i64 n1, .string s1, .int .i64 n2, .string s2, .int .i64 n3, .string s3] 70 (0, 0))).alloc (.cells zArr 36 (0, 0))).alloc (.cells (wrCells ([], 0)) 114 (0, 0))) (w.heap.size + 1 + 1) ([], 0) := ⟨by simp, by
    have h1 := heap_alloc_last ((w.alloc (.cells #[.int .i64 n0, .string s0, .int .i64 n1, .string s1, .int .i64 n2, .string s2, .int .i64 n3, .string s3] 70 (0, 0))).alloc (.cells zArr 36 (0, 0))) (.cells (wrCells ([], 0)) 114 (0, 0))
    rw [show ((w.alloc (.cells #[.int .i64 n0, .string s0, .int .i64 n1, .string s1, .int .i64 n2, .string s2, .int .i64 n3, .string s3] 70 (0, 0))).alloc (.cells zArr 36 (0, 0))).heap.size = w.heap.size + 1 + 1 by simp] at h1
    exact h1⟩
  have hB3 : Below w.heap.size w (((w.alloc (.cells #[.int .i64 n0, .string s0, .int .i64 n1, .string s1, .int .i64 n2, .string s2, .int .i64 n3, .string s3] 70 (0, 0))).alloc (.cells zArr 36 (0, 0))).alloc (.cells (wrCells ([], 0)) 114 (0, 0))) := (((Below.refl _ _).alloc (Nat.le_refl _) _).alloc (by simp) _).alloc (by simp; omega) _
  have hs3 : (((w.alloc (.cells #[.int .i64 n0, .string s0, .int .i64 n1, .string s1, .int .i64 n2, .string s2, .int .i64 n3, .string s3] 70 (0, 0))).alloc (.cells zArr 36 (0, 0))).alloc (.cells (wrCells ([], 0)) 114 (0, 0))).heap.size = w.heap.size + 3 := by simp
  revert hT3 hW3 hB3 hs3
  generalize ((w.alloc (.cells #[.int .i64 n0, .string s0, .int .i64 n1, .string s1, .int .i64 n2, .string s2, .int .i64 n3, .string s3] 70 (0, 0))).alloc (.cells zArr 36 (0, 0))).alloc (.cells (wrCells ([], 0)) 114 (0, 0)) = w3
  generalize hgw : w.heap.size + 1 + 1 = gw
  intro hT3 hW3 hB3 hs3
  have HT3 := Lib.hid hT3
  have HW3 := Lib.hid hW3
  have HB3 := Lib.hid hB3
  have HS3 := Lib.hid hs3
  have HGW := Lib.hid hgw
  clear hT3 hW3 hB3 hs3 hgw
  obtain ⟨E, hE⟩ : ∃ E : List Ent, E = [(n0, s0), (n1, s1), (n2, s2), (n3, s3)] := ⟨_, rfl⟩
  have HE := Lib.hid hE
  have HED : Hid (dwS E = dwS [(n0, s0), (n1, s1), (n2, s2), (n3, s3)] ∧ dwE E = dwE [(n0, s0), (n1, s1), (n2, s2), (n3, s3)]) := by rw [hE]; exact ⟨rfl, rfl⟩
  clear hE
  go_loopw [3, 8] (fun e i wr => ∃ j : Nat, j ≤ 4 ∧ i = .int .i64 j ∧ e = .int .i64 0 ∧ Hid (WrAt wr gw (entsB E j, 0)) ∧ Hid (Below gw w3 wr) ∧ Hid (∀ i, i < j → entOk (E.getD i (0, .empty)) = true)) (fun _ i _ => (4 - intOf i).toNat)
  case atStart => exact ⟨0, by omega, by rfl, rfl, HW3, Lib.hid (Below.refl _ _), Lib.hid (fun i h => by omega)⟩
  case round =>
    obtain ⟨j, hj, rfl, rfl, HW, HB, HOK⟩ := hrel
    have hlt : gw < wr.heap.size := (Array.getElem?_eq_some_iff.1 HW.out.2).1
    have HLT := Lib.hid hlt
    clear hlt
    by_cases hj4 : j = 4
    · subst hj4
      go_upto_region 11 with fail
      have hok : entsOk E = true := by unfold entsOk; rw [HOK.out 0 (by decide), HOK.out 1 (by decide), HOK.out 2 (by decide), HOK.out 3 (by decide)]; rfl
      have hd : dwS [(n0, s0), (n1, s1), (n2, s2), (n3, s3)] = entsB E 4 ∧ dwE [(n0, s0), (n1, s1), (n2, s2), (n3, s3)] = 0 := by
        rw [← HED.out.1, ← HED.out.2]; unfold dwS dwE; rw [hok]; exact ⟨rfl, rfl⟩
      have hl := ents_len E 4 (Nat.le_refl _) HOK.out
      have hzp : zpad 128 (entsB E 4) = entsB E 4 := by unfold zpad; rw [hl]; simp
      have HS := Lib.hid (wsector_ok gw (entsB E 4) wr HW.out)
      rw [hzp] at HS
      obtain ⟨m, hm⟩ : ∃ m, m = entsB E 4 := ⟨_, rfl⟩
      rw [← hm] at HS hd hl
      have HD := Lib.hid hd
      have HMS : Hid ((bvs m).toArray.size = 128) := by unfold Hid; rw [secV_size, hl]
      clear hok hd hl hzp hm
      unfold secV at HS
      go_wp2_with (first
        | (go_at_call 52; go_must (refine HS.out.mono ?_; rintro e w5 ⟨rfl, hb5⟩; have HB5 := Lib.hid (HB.out.trans (hb5.mono (Nat.le_of_lt HLT.out))); have HT5 := Lib.hid ((HB5.out.block (w.heap.size + 1) (by have := HGW.out; omega)).trans HT3.out); clear hb5))
        | (refine wpList_store_row rfl 36 (.tmp 2) (.tmp 30) rfl (w.heap.size + 1) zArr (bvs m).toArray 36 rfl rfl HT5.out (by rw [HMS.out]; exact size_sec) (by rw [HMS.out, zArr_size]) (sec_one _) ?_))
      have hld := run_loadVar_row (P := Try.prog) (w5.setRow (w.heap.size + 1) (bvs m).toArray) (w.heap.size + 1) 36 36 (bvs m).toArray (0, 0) _ (setRow_heap _ _ _ _ _ _ HT5.out) Try.underlying36 (by simp) (by rw [HMS.out]; exact size_sec)
      refine bodyPost_ret (v := .tuple #[secV m, .int .i64 0]) (results_cell2 Try.results25 rfl rfl hld) rfl ⟨by rw [HD.out.1, HD.out.2], ?_⟩
      have hbw := HB3.out.trans (HB5.out.mono (by have := HGW.out; omega))
      exact hbw.trans ⟨rfl, rfl, rfl, by rw [setRow_size]; exact Nat.le_refl _, fun k hk => setRow_other _ _ _ _ (by omega)⟩
    · have hjc : j = 0 ∨ j = 1 ∨ j = 2 ∨ j = 3 := by omega
      rcases hjc with rfl | rfl | rfl | rfl
      · have hix : ∀ W : World, (Instr.index 70 (.agg #[.int .i64 n0, .string s0, .int .i64 n1, .string s1, .int .i64 n2, .string s2, .int .i64 n3, .string s3]) (.int .i64 0)).run Try.prog W = .ok (.agg #[.int .i64 n0, .string s0]) W := fun W => run_index_ent W _ 0 (by decide)
        have hEJ : E.getD 0 (0, .empty) = (n0, s0) := by rw [HE.out]; rfl
        cases hm : mayE n0 s0 with
        | true =>
          obtain ⟨k, hk, hk200, hl26⟩ := may_bounds hm
          have hok : entOk (E.getD 0 (0, .empty)) = true := by rw [hEJ]; exact hm
          have hent : entsB E (0 + 1) = entsB E 0 ++ entB k s0 := by simp only [entsB]; rw [hEJ, hk]; rfl
          have hok' : ∀ i, i < 0 + 1 → entOk (E.getD i (0, .empty)) = true := fun i hi => by
            by_cases h : i = 0
            · rw [h]; exact hok
            · exact HOK.out i (by omega)
          have hPl : (entsB E 0).length = 32 * 0 := ents_len E 0 (by decide) HOK.out
          obtain ⟨P, hP⟩ : ∃ P, P = entsB E 0 := ⟨_, rfl⟩
          rw [← hP] at HW hent hPl
          have hwr := ent_writer P k s0 (by omega) hk200 hl26
          rw [← hent] at hwr
          have HOK' := Lib.hid hok'
          have HN1 : Hid (∀ w', WrAt w' gw (P, 0) → Calls Try.prog 51 #[.pointer (some ⟨gw, 0, none⟩), .int .i64 2, .int .u64 (k : Int)] w' (WrTo w' gw (wNum (P, 0) 2 k))) := fun w' h => wnum_any gw (P, 0) 2 k w' (by omega) h
          obtain ⟨q1, hq1⟩ : ∃ q1, q1 = wNum (P, 0) 2 k := ⟨_, rfl⟩
          rw [← hq1] at HN1 hwr
          have HN2 : Hid (∀ w', WrAt w' gw q1 → Calls Try.prog 51 #[.pointer (some ⟨gw, 0, none⟩), .int .i64 1, .int .u64 (s0.size : Int)] w' (WrTo w' gw (wNum q1 1 s0.size))) := fun w' h => wnum_any gw q1 1 s0.size w' (by omega) h
          obtain ⟨q2, hq2⟩ : ∃ q2, q2 = wNum q1 1 s0.size := ⟨_, rfl⟩
          rw [← hq2] at HN2 hwr
          have HN3 : Hid (∀ w' v, WrAt w' gw q2 → Byt w' v s0.data.toList → Calls Try.prog 77 #[.pointer (some ⟨gw, 0, none⟩), .int .i64 29, v] w' (WrTo w' gw (entsB E (0 + 1), 0))) := fun w' v h hb => by have q := wbytes_any gw q2 _ v 29 w' h hb; rw [hwr] at q; exact q
          have HMY := fun w' => Lib.hid (may_any n0 s0 w')
          rw [hm, hk] at HMY
          rw [hk] at hix ⊢
          have hcs := fun W : World => run_bytes_of_string (P := Try.prog) W 9 118 5 s0 Try.underlying9 Try.underlying118 Try.underlying5
          have HL26 := Lib.hid hl26
          have hx1 : (k : Int) % 18446744073709551616 = (k : Int) := by omega
          have hx2 : (s0.size : Int) % 18446744073709551616 = (s0.size : Int) := by omega
          clear hm hk hk200 hok hent hok' hPl hP hwr hq1 hq2 hEJ hl26
          go_upto_region 10 with (first
            | (go_at_call 76; refine (HMY _).out.mono ?_; rintro e w5 ⟨rfl, hb5⟩; have h45 : Below wr.heap.size wr w5 := ((Below.refl _ _).alloc (Nat.le_refl _) _).trans (hb5.mono (by simp)); have HW5 := Lib.hid (WrAt.below HW.out h45); have HB5 := Lib.hid (HB.out.trans (h45.mono (Nat.le_of_lt HLT.out))); have c60 : w5.cell? ⟨wr.heap.size, 0, none⟩ = some (.int .i64 (k : Int)) := (hb5.cell (p := ⟨wr.heap.size, 0, none⟩) (by simp)).trans (cell_row (heap_alloc_last wr _) 0); have c61 : w5.cell? ⟨wr.heap.size, 1, none⟩ = some (.string s0) := (hb5.cell (p := ⟨wr.heap.size, 1, none⟩) (by simp)).trans (cell_row (heap_alloc_last wr _) 1); have HL5 : Hid (wr.heap.size < w5.heap.size) := World.block_lt_of_cell? w5 _ c60; clear hb5 h45)
            | (have q := HW6; clear q; go_at_call 51; go_must (refine (HN2.out w6 HW6.out).mono ?_; rintro e w7 ⟨rfl, h71, h72⟩; have HW7 := Lib.hid h71; have HB7 := Lib.hid (HB6.out.trans (only_below h72 (Nat.le_refl gw))); have c71 : w7.cell? ⟨wr.heap.size, 1, none⟩ = some (.string s0) := (only_cell h72 HL6.out (by have := HLT.out; omega) 1).trans c6b; clear h71 h72 c6a c6b))
            | (go_at_call 51; go_must (refine (HN1.out w5 HW5.out).mono ?_; rintro e w6 ⟨rfl, h61, h62⟩; have HW6 := Lib.hid h61; have HB6 := Lib.hid (HB5.out.trans (only_below h62 (Nat.le_refl gw))); have c6a : w6.cell? ⟨wr.heap.size, 0, none⟩ = some (.int .i64 (k : Int)) := (only_cell h62 HL5.out (by have := HLT.out; omega) 0).trans c60; have c6b : w6.cell? ⟨wr.heap.size, 1, none⟩ = some (.string s0) := (only_cell h62 HL5.out (by have := HLT.out; omega) 1).trans c61; have HL6 : Hid (wr.heap.size < w6.heap.size) := World.block_lt_of_cell? w6 _ c6a; clear h61 h62 c60 c61))
            | (go_at_call 77; go_must (refine (HN3.out _ _ (WrAt.below HW7.out (conv_below' w7 _)) (byt_str' w7 _ s0 _ (by have := HL26.out; unfold maxLen; omega))).mono ?_; rintro e w8 ⟨rfl, h81, h82⟩; have HW8 := Lib.hid h81; have HB8 := Lib.hid (HB7.out.trans (((conv_below' w7 _).mono (Nat.le_of_lt (Array.getElem?_eq_some_iff.1 HW7.out.2).1)).trans (only_below h82 (Nat.le_refl gw)))); clear h81 h82)))
          go_wp2
          exact ⟨⟨0 + 1, by omega, by rfl, rfl, HW8, HB8, HOK'⟩, by simp [intOf]⟩
        | false =>
          have hne : entsOk E = false := by unfold entsOk; rw [show entOk (E.getD 0 (0, .empty)) = false by rw [hEJ]; exact hm]; simp
          have hd : dwS [(n0, s0), (n1, s1), (n2, s2), (n3, s3)] = List.replicate 128 0 ∧ dwE [(n0, s0), (n1, s1), (n2, s2), (n3, s3)] = 1 := by
            rw [← HED.out.1, ← HED.out.2]; unfold dwS dwE; rw [hne]; exact ⟨rfl, rfl⟩
          have HD := Lib.hid hd
          have HMY := fun w' => Lib.hid (may_any n0 s0 w')
          rw [hm] at HMY
          clear hm hne hd hEJ
          go_wp2_with (first
            | (go_at_call 76; go_must (refine (HMY _).out.mono ?_; rintro e w5 ⟨rfl, hb5⟩; have h45 : Below wr.heap.size wr w5 := ((Below.refl _ _).alloc (Nat.le_refl _) _).trans (hb5.mono (by simp)); have HB5 := Lib.hid (HB.out.trans (h45.mono (Nat.le_of_lt HLT.out))); have HT5 := Lib.hid ((HB5.out.block (w.heap.size + 1) (by have := HGW.out; omega)).trans HT3.out); clear hb5 h45))
            | (refine wpList_store_row rfl 36 (.tmp 2) (.tmp 14) rfl (w.heap.size + 1) zArr zArr 36 rfl rfl HT5.out (by rw [zArr_size]; exact size_sec) rfl zArr_one ?_))
          have hld := run_loadVar_row (P := Try.prog) (w5.setRow (w.heap.size + 1) zArr) (w.heap.size + 1) 36 36 zArr (0, 0) _ (setRow_heap _ _ _ _ _ _ HT5.out) Try.underlying36 (by simp) (by rw [zArr_size]; exact size_sec)
          refine bodyPost_ret (v := .tuple #[.agg zArr, .int .i64 1]) (results_cell2 Try.results25 rfl rfl hld) rfl ⟨by rw [HD.out.1, HD.out.2]; rfl, ?_⟩
          have hbw := HB3.out.trans (HB5.out.mono (by have := HGW.out; omega))
          exact hbw.trans ⟨rfl, rfl, rfl, by rw [setRow_size]; exact Nat.le_refl _, fun k hk => setRow_other _ _ _ _ (by omega)⟩
      · have hix : ∀ W : World, (Instr.index 70 (.agg #[.int .i64 n0, .string s0, .int .i64 n1, .string s1, .int .i64 n2, .string s2, .int .i64 n3, .string s3]) (.int .i64 1)).run Try.prog W = .ok (.agg #[.int .i64 n1, .string s1]) W := fun W => run_index_ent W _ 1 (by decide)
        have hEJ : E.getD 1 (0, .empty) = (n1, s1) := by rw [HE.out]; rfl
        cases hm : mayE n1 s1 with
        | true =>
          obtain ⟨k, hk, hk200, hl26⟩ := may_bounds hm
          have hok : entOk (E.getD 1 (0, .empty)) = true := by rw [hEJ]; exact hm
          have hent : entsB E (1 + 1) = entsB E 1 ++ entB k s1 := by simp only [entsB]; rw [hEJ, hk]; rfl
          have hok' : ∀ i, i < 1 + 1 → entOk (E.getD i (0, .empty)) = true := fun i hi => by
            by_cases h : i = 1
            · rw [h]; exact hok
            · exact HOK.out i (by omega)
          have hPl : (entsB E 1).length = 32 * 1 := ents_len E 1 (by decide) HOK.out
          obtain ⟨P, hP⟩ : ∃ P, P = entsB E 1 := ⟨_, rfl⟩
          rw [← hP] at HW hent hPl
          have hwr := ent_writer P k s1 (by omega) hk200 hl26
          rw [← hent] at hwr
          have HOK' := Lib.hid hok'
          have HN1 : Hid (∀ w', WrAt w' gw (P, 0) → Calls Try.prog 51 #[.pointer (some ⟨gw, 0, none⟩), .int .i64 2, .int .u64 (k : Int)] w' (WrTo w' gw (wNum (P, 0) 2 k))) := fun w' h => wnum_any gw (P, 0) 2 k w' (by omega) h
          obtain ⟨q1, hq1⟩ : ∃ q1, q1 = wNum (P, 0) 2 k := ⟨_, rfl⟩
          rw [← hq1] at HN1 hwr
          have HN2 : Hid (∀ w', WrAt w' gw q1 → Calls Try.prog 51 #[.pointer (some ⟨gw, 0, none⟩), .int .i64 1, .int .u64 (s1.size : Int)] w' (WrTo w' gw (wNum q1 1 s1.size))) := fun w' h => wnum_any gw q1 1 s1.size w' (by omega) h
          obtain ⟨q2, hq2⟩ : ∃ q2, q2 = wNum q1 1 s1.size := ⟨_, rfl⟩
          rw [← hq2] at HN2 hwr
          have HN3 : Hid (∀ w' v, WrAt w' gw q2 → Byt w' v s1.data.toList → Calls Try.prog 77 #[.pointer (some ⟨gw, 0, none⟩), .int .i64 29, v] w' (WrTo w' gw (entsB E (1 + 1), 0))) := fun w' v h hb => by have q := wbytes_any gw q2 _ v 29 w' h hb; rw [hwr] at q; exact q
          have HMY := fun w' => Lib.hid (may_any n1 s1 w')
          rw [hm, hk] at HMY
          rw [hk] at hix ⊢
          have hcs := fun W : World => run_bytes_of_string (P := Try.prog) W 9 118 5 s1 Try.underlying9 Try.underlying118 Try.underlying5
          have HL26 := Lib.hid hl26
          have hx1 : (k : Int) % 18446744073709551616 = (k : Int) := by omega
          have hx2 : (s1.size : Int) % 18446744073709551616 = (s1.size : Int) := by omega
          clear hm hk hk200 hok hent hok' hPl hP hwr hq1 hq2 hEJ hl26
          go_upto_region 10 with (first
            | (go_at_call 76; refine (HMY _).out.mono ?_; rintro e w5 ⟨rfl, hb5⟩; have h45 : Below wr.heap.size wr w5 := ((Below.refl _ _).alloc (Nat.le_refl _) _).trans (hb5.mono (by simp)); have HW5 := Lib.hid (WrAt.below HW.out h45); have HB5 := Lib.hid (HB.out.trans (h45.mono (Nat.le_of_lt HLT.out))); have c60 : w5.cell? ⟨wr.heap.size, 0, none⟩ = some (.int .i64 (k : Int)) := (hb5.cell (p := ⟨wr.heap.size, 0, none⟩) (by simp)).trans (cell_row (heap_alloc_last wr _) 0); have c61 : w5.cell? ⟨wr.heap.size, 1, none⟩ = some (.string s1) := (hb5.cell (p := ⟨wr.heap.size, 1, none⟩) (by simp)).trans (cell_row (heap_alloc_last wr _) 1); have HL5 : Hid (wr.heap.size < w5.heap.size) := World.block_lt_of_cell? w5 _ c60; clear hb5 h45)
            | (have q := HW6; clear q; go_at_call 51; go_must (refine (HN2.out w6 HW6.out).mono ?_; rintro e w7 ⟨rfl, h71, h72⟩; have HW7 := Lib.hid h71; have HB7 := Lib.hid (HB6.out.trans (only_below h72 (Nat.le_refl gw))); have c71 : w7.cell? ⟨wr.heap.size, 1, none⟩ = some (.string s1) := (only_cell h72 HL6.out (by have := HLT.out; omega) 1).trans c6b; clear h71 h72 c6a c6b))
            | (go_at_call 51; go_must (refine (HN1.out w5 HW5.out).mono ?_; rintro e w6 ⟨rfl, h61, h62⟩; have HW6 := Lib.hid h61; have HB6 := Lib.hid (HB5.out.trans (only_below h62 (Nat.le_refl gw))); have c6a : w6.cell? ⟨wr.heap.size, 0, none⟩ = some (.int .i64 (k : Int)) := (only_cell h62 HL5.out (by have := HLT.out; omega) 0).trans c60; have c6b : w6.cell? ⟨wr.heap.size, 1, none⟩ = some (.string s1) := (only_cell h62 HL5.out (by have := HLT.out; omega) 1).trans c61; have HL6 : Hid (wr.heap.size < w6.heap.size) := World.block_lt_of_cell? w6 _ c6a; clear h61 h62 c60 c61))
            | (go_at_call 77; go_must (refine (HN3.out _ _ (WrAt.below HW7.out (conv_below' w7 _)) (byt_str' w7 _ s1 _ (by have := HL26.out; unfold maxLen; omega))).mono ?_; rintro e w8 ⟨rfl, h81, h82⟩; have HW8 := Lib.hid h81; have HB8 := Lib.hid (HB7.out.trans (((conv_below' w7 _).mono (Nat.le_of_lt (Array.getElem?_eq_some_iff.1 HW7.out.2).1)).trans (only_below h82 (Nat.le_refl gw)))); clear h81 h82)))
          go_wp2
          exact ⟨⟨1 + 1, by omega, by rfl, rfl, HW8, HB8, HOK'⟩, by simp [intOf]⟩
        | false =>
          have hne : entsOk E = false := by unfold entsOk; rw [show entOk (E.getD 1 (0, .empty)) = false by rw [hEJ]; exact hm]; simp
          have hd : dwS [(n0, s0), (n1, s1), (n2, s2), (n3, s3)] = List.replicate 128 0 ∧ dwE [(n0, s0), (n1, s1), (n2, s2), (n3, s3)] = 1 := by
            rw [← HED.out.1, ← HED.out.2]; unfold dwS dwE; rw [hne]; exact ⟨rfl, rfl⟩
          have HD := Lib.hid hd
          have HMY := fun w' => Lib.hid (may_any n1 s1 w')
          rw [hm] at HMY
          clear hm hne hd hEJ
          go_wp2_with (first
            | (go_at_call 76; go_must (refine (HMY _).out.mono ?_; rintro e w5 ⟨rfl, hb5⟩; have h45 : Below wr.heap.size wr w5 := ((Below.refl _ _).alloc (Nat.le_refl _) _).trans (hb5.mono (by simp)); have HB5 := Lib.hid (HB.out.trans (h45.mono (Nat.le_of_lt HLT.out))); have HT5 := Lib.hid ((HB5.out.block (w.heap.size + 1) (by have := HGW.out; omega)).trans HT3.out); clear hb5 h45))
            | (refine wpList_store_row rfl 36 (.tmp 2) (.tmp 14) rfl (w.heap.size + 1) zArr zArr 36 rfl rfl HT5.out (by rw [zArr_size]; exact size_sec) rfl zArr_one ?_))
          have hld := run_loadVar_row (P := Try.prog) (w5.setRow (w.heap.size + 1) zArr) (w.heap.size + 1) 36 36 zArr (0, 0) _ (setRow_heap _ _ _ _ _ _ HT5.out) Try.underlying36 (by simp) (by rw [zArr_size]; exact size_sec)
          refine bodyPost_ret (v := .tuple #[.agg zArr, .int .i64 1]) (results_cell2 Try.results25 rfl rfl hld) rfl ⟨by rw [HD.out.1, HD.out.2]; rfl, ?_⟩
          have hbw := HB3.out.trans (HB5.out.mono (by have := HGW.out; omega))
          exact hbw.trans ⟨rfl, rfl, rfl, by rw [setRow_size]; exact Nat.le_refl _, fun k hk => setRow_other _ _ _ _ (by omega)⟩
      · have hix : ∀ W : World, (Instr.index 70 (.agg #[.int .i64 n0, .string s0, .int .i64 n1, .string s1, .int .i64 n2, .string s2, .int .i64 n3, .string s3]) (.int .i64 2)).run Try.prog W = .ok (.agg #[.int .i64 n2, .string s2]) W := fun W => run_index_ent W _ 2 (by decide)
        have hEJ : E.getD 2 (0, .empty) = (n2, s2) := by rw [HE.out]; rfl
        cases hm : mayE n2 s2 with
        | true =>
          obtain ⟨k, hk, hk200, hl26⟩ := may_bounds hm
          have hok : entOk (E.getD 2 (0, .empty)) = true := by rw [hEJ]; exact hm
          have hent : entsB E (2 + 1) = entsB E 2 ++ entB k s2 := by simp only [entsB]; rw [hEJ, hk]; rfl
          have hok' : ∀ i, i < 2 + 1 → entOk (E.getD i (0, .empty)) = true := fun i hi => by
            by_cases h : i = 2
            · rw [h]; exact hok
            · exact HOK.out i (by omega)
          have hPl : (entsB E 2).length = 32 * 2 := ents_len E 2 (by decide) HOK.out
          obtain ⟨P, hP⟩ : ∃ P, P = entsB E 2 := ⟨_, rfl⟩
          rw [← hP] at HW hent hPl
          have hwr := ent_writer P k s2 (by omega) hk200 hl26
          rw [← hent] at hwr
          have HOK' := Lib.hid hok'
          have HN1 : Hid (∀ w', WrAt w' gw (P, 0) → Calls Try.prog 51 #[.pointer (some ⟨gw, 0, none⟩), .int .i64 2, .int .u64 (k : Int)] w' (WrTo w' gw (wNum (P, 0) 2 k))) := fun w' h => wnum_any gw (P, 0) 2 k w' (by omega) h
          obtain ⟨q1, hq1⟩ : ∃ q1, q1 = wNum (P, 0) 2 k := ⟨_, rfl⟩
          rw [← hq1] at HN1 hwr
          have HN2 : Hid (∀ w', WrAt w' gw q1 → Calls Try.prog 51 #[.pointer (some ⟨gw, 0, none⟩), .int .i64 1, .int .u64 (s2.size : Int)] w' (WrTo w' gw (wNum q1 1 s2.size))) := fun w' h => wnum_any gw q1 1 s2.size w' (by omega) h
          obtain ⟨q2, hq2⟩ : ∃ q2, q2 = wNum q1 1 s2.size := ⟨_, rfl⟩
          rw [← hq2] at HN2 hwr
          have HN3 : Hid (∀ w' v, WrAt w' gw q2 → Byt w' v s2.data.toList → Calls Try.prog 77 #[.pointer (some ⟨gw, 0, none⟩), .int .i64 29, v] w' (WrTo w' gw (entsB E (2 + 1), 0))) := fun w' v h hb => by have q := wbytes_any gw q2 _ v 29 w' h hb; rw [hwr] at q; exact q
          have HMY := fun w' => Lib.hid (may_any n2 s2 w')
          rw [hm, hk] at HMY
          rw [hk] at hix ⊢
          have hcs := fun W : World => run_bytes_of_string (P := Try.prog) W 9 118 5 s2 Try.underlying9 Try.underlying118 Try.underlying5
          have HL26 := Lib.hid hl26
          have hx1 : (k : Int) % 18446744073709551616 = (k : Int) := by omega
          have hx2 : (s2.size : Int) % 18446744073709551616 = (s2.size : Int) := by omega
          clear hm hk hk200 hok hent hok' hPl hP hwr hq1 hq2 hEJ hl26
          go_upto_region 10 with (first
            | (go_at_call 76; refine (HMY _).out.mono ?_; rintro e w5 ⟨rfl, hb5⟩; have h45 : Below wr.heap.size wr w5 := ((Below.refl _ _).alloc (Nat.le_refl _) _).trans (hb5.mono (by simp)); have HW5 := Lib.hid (WrAt.below HW.out h45); have HB5 := Lib.hid (HB.out.trans (h45.mono (Nat.le_of_lt HLT.out))); have c60 : w5.cell? ⟨wr.heap.size, 0, none⟩ = some (.int .i64 (k : Int)) := (hb5.cell (p := ⟨wr.heap.size, 0, none⟩) (by simp)).trans (cell_row (heap_alloc_last wr _) 0); have c61 : w5.cell? ⟨wr.heap.size, 1, none⟩ = some (.string s2) := (hb5.cell (p := ⟨wr.heap.size, 1, none⟩) (by simp)).trans (cell_row (heap_alloc_last wr _) 1); have HL5 : Hid (wr.heap.size < w5.heap.size) := World.block_lt_of_cell? w5 _ c60; clear hb5 h45)
            | (have q := HW6; clear q; go_at_call 51; go_must (refine (HN2.out w6 HW6.out).mono ?_; rintro e w7 ⟨rfl, h71, h72⟩; have HW7 := Lib.hid h71; have HB7 := Lib.hid (HB6.out.trans (only_below h72 (Nat.le_refl gw))); have c71 : w7.cell? ⟨wr.heap.size, 1, none⟩ = some (.string s2) := (only_cell h72 HL6.out (by have := HLT.out; omega) 1).trans c6b; clear h71 h72 c6a c6b))
            | (go_at_call 51; go_must (refine (HN1.out w5 HW5.out).mono ?_; rintro e w6 ⟨rfl, h61, h62⟩; have HW6 := Lib.hid h61; have HB6 := Lib.hid (HB5.out.trans (only_below h62 (Nat.le_refl gw))); have c6a : w6.cell? ⟨wr.heap.size, 0, none⟩ = some (.int .i64 (k : Int)) := (only_cell h62 HL5.out (by have := HLT.out; omega) 0).trans c60; have c6b : w6.cell? ⟨wr.heap.size, 1, none⟩ = some (.string s2) := (only_cell h62 HL5.out (by have := HLT.out; omega) 1).trans c61; have HL6 : Hid (wr.heap.size < w6.heap.size) := World.block_lt_of_cell? w6 _ c6a; clear h61 h62 c60 c61))
            | (go_at_call 77; go_must (refine (HN3.out _ _ (WrAt.below HW7.out (conv_below' w7 _)) (byt_str' w7 _ s2 _ (by have := HL26.out; unfold maxLen; omega))).mono ?_; rintro e w8 ⟨rfl, h81, h82⟩; have HW8 := Lib.hid h81; have HB8 := Lib.hid (HB7.out.trans (((conv_below' w7 _).mono (Nat.le_of_lt (Array.getElem?_eq_some_iff.1 HW7.out.2).1)).trans (only_below h82 (Nat.le_refl gw)))); clear h81 h82)))
          go_wp2
          exact ⟨⟨2 + 1, by omega, by rfl, rfl, HW8, HB8, HOK'⟩, by simp [intOf]⟩
        | false =>
          have hne : entsOk E = false := by unfold entsOk; rw [show entOk (E.getD 2 (0, .empty)) = false by rw [hEJ]; exact hm]; simp
          have hd : dwS [(n0, s0), (n1, s1), (n2, s2), (n3, s3)] = List.replicate 128 0 ∧ dwE [(n0, s0), (n1, s1), (n2, s2), (n3, s3)] = 1 := by
            rw [← HED.out.1, ← HED.out.2]; unfold dwS dwE; rw [hne]; exact ⟨rfl, rfl⟩
          have HD := Lib.hid hd
          have HMY := fun w' => Lib.hid (may_any n2 s2 w')
          rw [hm] at HMY
          clear hm hne hd hEJ
          go_wp2_with (first
            | (go_at_call 76; go_must (refine (HMY _).out.mono ?_; rintro e w5 ⟨rfl, hb5⟩; have h45 : Below wr.heap.size wr w5 := ((Below.refl _ _).alloc (Nat.le_refl _) _).trans (hb5.mono (by simp)); have HB5 := Lib.hid (HB.out.trans (h45.mono (Nat.le_of_lt HLT.out))); have HT5 := Lib.hid ((HB5.out.block (w.heap.size + 1) (by have := HGW.out; omega)).trans HT3.out); clear hb5 h45))
            | (refine wpList_store_row rfl 36 (.tmp 2) (.tmp 14) rfl (w.heap.size + 1) zArr zArr 36 rfl rfl HT5.out (by rw [zArr_size]; exact size_sec) rfl zArr_one ?_))
          have hld := run_loadVar_row (P := Try.prog) (w5.setRow (w.heap.size + 1) zArr) (w.heap.size + 1) 36 36 zArr (0, 0) _ (setRow_heap _ _ _ _ _ _ HT5.out) Try.underlying36 (by simp) (by rw [zArr_size]; exact size_sec)
          refine bodyPost_ret (v := .tuple #[.agg zArr, .int .i64 1]) (results_cell2 Try.results25 rfl rfl hld) rfl ⟨by rw [HD.out.1, HD.out.2]; rfl, ?_⟩
          have hbw := HB3.out.trans (HB5.out.mono (by have := HGW.out; omega))
          exact hbw.trans ⟨rfl, rfl, rfl, by rw [setRow_size]; exact Nat.le_refl _, fun k hk => setRow_other _ _ _ _ (by omega)⟩
      · have hix : ∀ W : World, (Instr.index 70 (.agg #[.int .i64 n0, .string s0, .int .i64 n1, .string s1, .int .i64 n2, .string s2, .int .i64 n3, .string s3]) (.int .i64 3)).run Try.prog W = .ok (.agg #[.int .i64 n3, .string s3]) W := fun W => run_index_ent W _ 3 (by decide)
        have hEJ : E.getD 3 (0, .empty) = (n3, s3) := by rw [HE.out]; rfl
        cases hm : mayE n3 s3 with
        | true =>
          obtain ⟨k, hk, hk200, hl26⟩ := may_bounds hm
          have hok : entOk (E.getD 3 (0, .empty)) = true := by rw [hEJ]; exact hm
          have hent : entsB E (3 + 1) = entsB E 3 ++ entB k s3 := by simp only [entsB]; rw [hEJ, hk]; rfl
          have hok' : ∀ i, i < 3 + 1 → entOk (E.getD i (0, .empty)) = true := fun i hi => by
            by_cases h : i = 3
            · rw [h]; exact hok
            · exact HOK.out i (by omega)
          have hPl : (entsB E 3).length = 32 * 3 := ents_len E 3 (by decide) HOK.out
          obtain ⟨P, hP⟩ : ∃ P, P = entsB E 3 := ⟨_, rfl⟩
          rw [← hP] at HW hent hPl
          have hwr := ent_writer P k s3 (by omega) hk200 hl26
          rw [← hent] at hwr
          have HOK' := Lib.hid hok'
          have HN1 : Hid (∀ w', WrAt w' gw (P, 0) → Calls Try.prog 51 #[.pointer (some ⟨gw, 0, none⟩), .int .i64 2, .int .u64 (k : Int)] w' (WrTo w' gw (wNum (P, 0) 2 k))) := fun w' h => wnum_any gw (P, 0) 2 k w' (by omega) h
          obtain ⟨q1, hq1⟩ : ∃ q1, q1 = wNum (P, 0) 2 k := ⟨_, rfl⟩
          rw [← hq1] at HN1 hwr
          have HN2 : Hid (∀ w', WrAt w' gw q1 → Calls Try.prog 51 #[.pointer (some ⟨gw, 0, none⟩), .int .i64 1, .int .u64 (s3.size : Int)] w' (WrTo w' gw (wNum q1 1 s3.size))) := fun w' h => wnum_any gw q1 1 s3.size w' (by omega) h
          obtain ⟨q2, hq2⟩ : ∃ q2, q2 = wNum q1 1 s3.size := ⟨_, rfl⟩
          rw [← hq2] at HN2 hwr
          have HN3 : Hid (∀ w' v, WrAt w' gw q2 → Byt w' v s3.data.toList → Calls Try.prog 77 #[.pointer (some ⟨gw, 0, none⟩), .int .i64 29, v] w' (WrTo w' gw (entsB E (3 + 1), 0))) := fun w' v h hb => by have q := wbytes_any gw q2 _ v 29 w' h hb; rw [hwr] at q; exact q
          have HMY := fun w' => Lib.hid (may_any n3 s3 w')
          rw [hm, hk] at HMY
          rw [hk] at hix ⊢
          have hcs := fun W : World => run_bytes_of_string (P := Try.prog) W 9 118 5 s3 Try.underlying9 Try.underlying118 Try.underlying5
          have HL26 := Lib.hid hl26
          have hx1 : (k : Int) % 18446744073709551616 = (k : Int) := by omega
          have hx2 : (s3.size : Int) % 18446744073709551616 = (s3.size : Int) := by omega
          clear hm hk hk200 hok hent hok' hPl hP hwr hq1 hq2 hEJ hl26
          go_upto_region 10 with (first
            | (go_at_call 76; refine (HMY _).out.mono ?_; rintro e w5 ⟨rfl, hb5⟩; have h45 : Below wr.heap.size wr w5 := ((Below.refl _ _).alloc (Nat.le_refl _) _).trans (hb5.mono (by simp)); have HW5 := Lib.hid (WrAt.below HW.out h45); have HB5 := Lib.hid (HB.out.trans (h45.mono (Nat.le_of_lt HLT.out))); have c60 : w5.cell? ⟨wr.heap.size, 0, none⟩ = some (.int .i64 (k : Int)) := (hb5.cell (p := ⟨wr.heap.size, 0, none⟩) (by simp)).trans (cell_row (heap_alloc_last wr _) 0); have c61 : w5.cell? ⟨wr.heap.size, 1, none⟩ = some (.string s3) := (hb5.cell (p := ⟨wr.heap.size, 1, none⟩) (by simp)).trans (cell_row (heap_alloc_last wr _) 1); have HL5 : Hid (wr.heap.size < w5.heap.size) := World.block_lt_of_cell? w5 _ c60; clear hb5 h45)
            | (have q := HW6; clear q; go_at_call 51; go_must (refine (HN2.out w6 HW6.out).mono ?_; rintro e w7 ⟨rfl, h71, h72⟩; have HW7 := Lib.hid h71; have HB7 := Lib.hid (HB6.out.trans (only_below h72 (Nat.le_refl gw))); have c71 : w7.cell? ⟨wr.heap.size, 1, none⟩ = some (.string s3) := (only_cell h72 HL6.out (by have := HLT.out; omega) 1).trans c6b; clear h71 h72 c6a c6b))
            | (go_at_call 51; go_must (refine (HN1.out w5 HW5.out).mono ?_; rintro e w6 ⟨rfl, h61, h62⟩; have HW6 := Lib.hid h61; have HB6 := Lib.hid (HB5.out.trans (only_below h62 (Nat.le_refl gw))); have c6a : w6.cell? ⟨wr.heap.size, 0, none⟩ = some (.int .i64 (k : Int)) := (only_cell h62 HL5.out (by have := HLT.out; omega) 0).trans c60; have c6b : w6.cell? ⟨wr.heap.size, 1, none⟩ = some (.string s3) := (only_cell h62 HL5.out (by have := HLT.out; omega) 1).trans c61; have HL6 : Hid (wr.heap.size < w6.heap.size) := World.block_lt_of_cell? w6 _ c6a; clear h61 h62 c60 c61))
            | (go_at_call 77; go_must (refine (HN3.out _ _ (WrAt.below HW7.out (conv_below' w7 _)) (byt_str' w7 _ s3 _ (by have := HL26.out; unfold maxLen; omega))).mono ?_; rintro e w8 ⟨rfl, h81, h82⟩; have HW8 := Lib.hid h81; have HB8 := Lib.hid (HB7.out.trans (((conv_below' w7 _).mono (Nat.le_of_lt (Array.getElem?_eq_some_iff.1 HW7.out.2).1)).trans (only_below h82 (Nat.le_refl gw)))); clear h81 h82)))
          go_wp2
          exact ⟨⟨3 + 1, by omega, by rfl, rfl, HW8, HB8, HOK'⟩, by simp [intOf]⟩
        | false =>
          have hne : entsOk E = false := by unfold entsOk; rw [show entOk (E.getD 3 (0, .empty)) = false by rw [hEJ]; exact hm]; simp
          have hd : dwS [(n0, s0), (n1, s1), (n2, s2), (n3, s3)] = List.replicate 128 0 ∧ dwE [(n0, s0), (n1, s1), (n2, s2), (n3, s3)] = 1 := by
            rw [← HED.out.1, ← HED.out.2]; unfold dwS dwE; rw [hne]; exact ⟨rfl, rfl⟩
          have HD := Lib.hid hd
          have HMY := fun w' => Lib.hid (may_any n3 s3 w')
          rw [hm] at HMY
          clear hm hne hd hEJ
          go_wp2_with (first
            | (go_at_call 76; go_must (refine (HMY _).out.mono ?_; rintro e w5 ⟨rfl, hb5⟩; have h45 : Below wr.heap.size wr w5 := ((Below.refl _ _).alloc (Nat.le_refl _) _).trans (hb5.mono (by simp)); have HB5 := Lib.hid (HB.out.trans (h45.mono (Nat.le_of_lt HLT.out))); have HT5 := Lib.hid ((HB5.out.block (w.heap.size + 1) (by have := HGW.out; omega)).trans HT3.out); clear hb5 h45))
            | (refine wpList_store_row rfl 36 (.tmp 2) (.tmp 14) rfl (w.heap.size + 1) zArr zArr 36 rfl rfl HT5.out (by rw [zArr_size]; exact size_sec) rfl zArr_one ?_))
          have hld := run_loadVar_row (P := Try.prog) (w5.setRow (w.heap.size + 1) zArr) (w.heap.size + 1) 36 36 zArr (0, 0) _ (setRow_heap _ _ _ _ _ _ HT5.out) Try.underlying36 (by simp) (by rw [zArr_size]; exact size_sec)
          refine bodyPost_ret (v := .tuple #[.agg zArr, .int .i64 1]) (results_cell2 Try.results25 rfl rfl hld) rfl ⟨by rw [HD.out.1, HD.out.2]; rfl, ?_⟩
          have hbw := HB3.out.trans (HB5.out.mono (by have := HGW.out; omega))
          exact hbw.trans ⟨rfl, rfl, rfl, by rw [setRow_size]; exact Nat.le_refl _, fun k hk => setRow_other _ _ _ _ (by omega)⟩
end Go.Proofs.Ytcpfafmkhegckaa
/-
  DrumlinKinds, plain: what is written as one kind is that kind alone.
-/
namespace Go.Proofs.Ytcpfafmkhegckaa
open Go.RowKit
set_option linter.unusedVariables false
set_option linter.unusedSimpArgs false
set_option linter.unnecessarySimpa false
structure Smy.Pre (x : Smy) : Prop where
  seq : x.seq < 2 ^ 64
  first : x.first < 2 ^ 64
  next : I64 x.next
  time : x.time < 2 ^ 32
  ents : ∀ y ∈ x.ents, y.Ok
theorem own_readS {w : World} {base T c : Nat} {s : Option Addr} {L : List Ent5} {n : Nat} (h : w.ownsRow base T 4 (.slice s n c) n (rowsOf Ent5.cells L)) (hn : n = L.length) : ReadAt w s Ent5.cells 4 L ∧ ∀ a, s = some a → a.block < w.heap.size := by
  obtain ⟨A9, c9, e9, -, -, -, h9, h10⟩ := own_rows (F := fun _ => False) Ent5.cells_len h hn (fun _ _ => id)
  injection e9 with e9
  subst e9
  exact ⟨h9, fun a ha => (h10 a ha).1⟩
theorem openB_at0 {l : List UInt8} (hl : l.length = 128) (h : openB l = true) : l.getD 0 0 = 215 := by
  have := (open_body_len l h hl).2
  rw [← this]
  exact seal_at0 _ _
theorem kd_none {l : List UInt8} (h : openB l = false) : KdIs l false false false := by
  constructor <;> simp [rinoOk, sumOk, sumRdOk, slotRdOk, useRdOk, rhdrOk, recordRdOk, rdB, rdOk, h]
theorem kd_ino {l : List UInt8} (hk : openK l = 2) (h : rinoOk l = true) : KdIs l true false false := by
  constructor <;> simp [h, sumOk, sumRdOk, slotRdOk, useRdOk, rhdrOk, recordRdOk, rdB, rdOk, hk]
theorem kd_sum {l : List UInt8} (hk : openK l = 3) (h : sumOk l = true) : KdIs l false true false := by
  constructor <;> simp [h, rinoOk, slotRdOk, useRdOk, rhdrOk, recordRdOk, rdB, rdOk, hk]
theorem kd_rec {l : List UInt8} (hk : openK l = 7) (h : recordRdOk l = true) : KdIs l false false true := by
  constructor <;> simp [h, rinoOk, sumOk, sumRdOk, slotRdOk, useRdOk, rhdrOk, rdB, rdOk, hk]
theorem make_at2 (k : UInt8) (L : List UInt8) (h : mayB k L = true) : (makeS k L).getD 2 0 = k := by
  unfold makeS
  rw [if_pos h]
  exact seal_at2 _ _
def okE (b : Bool) : Int := if b then 0 else 1
/-- An inode. -/
theorem kd_inode (x : Ino) (hx : x.Ok) : ∃ ok, wrE 2 (inoMay x.kind && !fBad (inoL x)) (fB (inoL x)) = okE ok ∧
    (ok = true → KdIs (wrS 2 (inoMay x.kind && !fBad (inoL x)) (fB (inoL x))) true false false ∧ (openB (wrS 2 (inoMay x.kind && !fBad (inoL x)) (fB (inoL x))) && decide ((wrS 2 (inoMay x.kind && !fBad (inoL x)) (fB (inoL x))).getD 2 0 = 2)) = true) := by
  cases hok : (inoMay x.kind && !fBad (inoL x)) with
  | false => exact ⟨false, rfl, fun h => by cases h⟩
  | true =>
    rw [Bool.and_eq_true] at hok
    have hbd : fBad (inoL x) = false := by simpa using hok.2
    have hm : mayB 2 (fB (inoL x)) = true := (mayB_iff _ _).2 ⟨by decide, by rw [fBad_inoL_len x hx]; decide⟩
    obtain ⟨h1, h2, h3⟩ := open_makeS 2 _ hm
    have hr := (ino_read x hx hok.1 hbd).1
    have hS : wrS 2 true (fB (inoL x)) = makeS 2 (fB (inoL x)) := rfl
    refine ⟨true, ?_, fun _ => ⟨kd_ino (by rw [hS]; exact h2) hr, ?_⟩⟩
    · unfold wrE
      rw [if_pos rfl, makeE_ok, hm]; rfl
    · rw [hS, h1, make_at2 2 _ hm]; rfl
/-- A summary. -/
theorem kd_summary (x : Smy) (hx : x.Ok) (ok : Bool) (hok : sumB x = ok) : wrE 3 (sumWr x) (fB (sumL x)) = okE ok ∧
    (ok = true → KdIs (sumS x) false true false ∧ (openB (sumS x) && decide ((sumS x).getD 2 0 = 3)) = true) := by
  refine ⟨by rw [sumE_eq, hok]; rfl, fun h => ?_⟩
  rw [h] at hok
  have hr := (sum_read x hx hok).1
  unfold sumB at hok
  rw [Bool.and_eq_true] at hok
  have hS : sumS x = makeS 3 (fB (sumL x)) := by unfold sumS wrS; rw [hok.1, if_pos rfl]
  obtain ⟨h1, h2, h3⟩ := open_makeS 3 _ hok.2
  refine ⟨kd_sum (by rw [hS]; exact h2) hr, ?_⟩
  rw [hS, h1, make_at2 3 _ hok.2]; rfl
/-- No records. -/
def awS : List UInt8 := wrS 7 (recordsMay [] && !fBad (recordAll [])) (fB (recordAll []))
theorem awS_eq : awS = makeS 7 [] := rfl
theorem kd_awake : KdIs awS false false true ∧ wrE 7 (recordsMay [] && !fBad (recordAll [])) (fB (recordAll [])) = 0 ∧ awS.length = 128 := by
  obtain ⟨h1, h2, h3⟩ := open_makeS 7 [] (by decide)
  refine ⟨?_, by rfl, wrS_length _ _ _⟩
  rw [awS_eq]
  refine kd_rec h2 ?_
  unfold recordRdOk
  rw [h1, h2, h3]
  rfl
/-- A block of a directory. -/
def dirE (s : ByteArray) (e0 : ByteArray) : List Ent := [(7, s), (9, ⟨#[46, 46]⟩), (0, e0), (0, e0)]
theorem dir_ok (s e0 : ByteArray) (h0 : e0.size = 0) : entsOk (dirE s e0) = decide (goodE s.data.toList = 0) := by
  have h9 : mayE 9 ⟨#[46, 46]⟩ = true := by decide
  have hz : mayE 0 e0 = true := by unfold mayE; rw [if_pos rfl, h0]; rfl
  have h7 : mayE 7 s = decide (goodE s.data.toList = 0) := by
    unfold mayE
    rw [if_neg (by decide)]
    exact decide_eq_decide.2 ⟨fun h => h.2.2, fun h => ⟨by decide, by decide, h⟩⟩
  show (mayE 7 s && mayE 9 ⟨#[46, 46]⟩ && mayE 0 e0 && mayE 0 e0) = _
  rw [h9, hz, h7]
  simp
theorem dw_length (l : List Ent) : (dwS l).length = 128 := by
  unfold dwS
  cases h : entsOk l with
  | false => simp
  | true =>
    rw [if_pos rfl]
    unfold entsOk at h
    rw [Bool.and_eq_true, Bool.and_eq_true, Bool.and_eq_true] at h
    refine ents_len l 4 (Nat.le_refl _) (fun i hi => ?_)
    obtain ⟨⟨⟨h0, h1⟩, h2⟩, h3⟩ := h
    match i, hi with
    | 0, _ => exact h0
    | 1, _ => exact h1
    | 2, _ => exact h2
    | 3, _ => exact h3
theorem kd_dir (s e0 : ByteArray) (h0 : e0.size = 0) (hg : goodE s.data.toList = 0) : KdIs (dwS (dirE s e0)) false false false ∧ dwE (dirE s e0) = 0 := by
  have hok : entsOk (dirE s e0) = true := by rw [dir_ok s e0 h0, decide_eq_true hg]
  refine ⟨kd_none ?_, by unfold dwE; rw [hok]; rfl⟩
  cases h : openB (dwS (dirE s e0)) with
  | false => rfl
  | true =>
    have h1 := openB_at0 (dw_length _) h
    unfold dwS at h1
    rw [hok, if_pos rfl] at h1
    have h2 : (entsB (dirE s e0) 4).getD 0 0 = 7 := by
      have e : entBs (7, s) = 7 :: 0 :: UInt8.ofNat s.size :: (s.data.toList ++ List.replicate (29 - s.size) 0) := by
        unfold entBs entB
        rw [show le 2 ((7 : Int).toNat) = [7, 0] by decide]; rfl
      show ((((([] : List UInt8) ++ entBs (7, s)) ++ entBs (9, ⟨#[46, 46]⟩)) ++ entBs (0, e0)) ++ entBs (0, e0)).getD 0 0 = 7
      rw [e]; rfl
    rw [h2] at h1
    cases h1
theorem dir_no (s e0 : ByteArray) (h0 : e0.size = 0) (hg : goodE s.data.toList ≠ 0) : dwE (dirE s e0) = 1 := by
  unfold dwE
  rw [dir_ok s e0 h0, decide_eq_false hg]; rfl
end Go.Proofs.Ytcpfafmkhegckaa
/-
  DrumlinKinds: the walk.
-/
namespace Go.Proofs.Ytcpfafmkhegckaa
open Go.RowKit
set_option linter.unusedVariables false
set_option linter.unusedSimpArgs false
set_option linter.unnecessarySimpa false
def StrV (v : Value) : Prop := ∃ s : ByteArray, v = .string s
set_option maxRecDepth 100000 in
set_option maxHeartbeats 16000000 in
theorem drumlinKinds_walk (x : Ino) (hx : x.Ok) (y : Smy) (hy : y.Pre) (A : Option Addr) (c : Nat) (hLc : y.ents.length ≤ c) (hcm : c ≤ maxLen) (s : ByteArray) (hs : s.size ≤ 140737488351232) (w : World) (hR : ReadAt w A Ent5.cells 4 y.ents) :
    Calls Try.prog 4 #[.agg x.cells.toArray, .agg (y.cells (.slice A y.ents.length c)), .string s] w (RetT w true) := by
  obtain ⟨seq, first, commit, next, time, L⟩ := y
  obtain ⟨r0, r1, r3, r4, rE⟩ := hy
  dsimp only at r0 r1 r3 r4 rE hLc hR
  have HR := Lib.hid hR
  have HOK := Lib.hid rE
  have HPR := Lib.hid (⟨r0, r1, r3, r4⟩ : seq < 2 ^ 64 ∧ first < 2 ^ 64 ∧ I64 next ∧ time < 2 ^ 32)
  unfold maxLen at hcm
  have hcc : ∀ M : List Ent5, (Smy.mk seq first commit next time M).cells (.slice A (Smy.mk seq first commit next time M).ents.length c) = #[.int .u64 (seq : Int), .int .u64 (first : Int), .bool commit, .int .i64 next, .int .u32 (time : Int), .slice A M.length c] := fun M => rfl
  rw [hcc L]
  clear hR rE r0 r1 r3 r4
  -- the inode
  obtain ⟨oki, hie, hik⟩ := kd_inode x hx
  have HLI := fun W => linode_any x W hx
  have HWI := fun W => writeInode_any x W hx
  unfold WrS at HWI
  rw [hie] at HWI
  have hxs := ino_size x hx
  obtain ⟨X, hX⟩ : ∃ X, x.cells.toArray = X := ⟨_, rfl⟩
  have hil := wrS_length 2 (inoMay x.kind && !fBad (inoL x)) (fB (inoL x))
  obtain ⟨SI, hSI⟩ : ∃ SI, wrS 2 (inoMay x.kind && !fBad (inoL x)) (fB (inoL x)) = SI := ⟨_, rfl⟩
  rw [hSI] at hik hil
  simp only [hSI, hX] at HWI HLI
  rw [hX] at hxs ⊢
  unfold secV at HWI
  replace HLI := fun W => Lib.hid (HLI W)
  replace HWI := fun W => Lib.hid (HWI W)
  have HIK := Lib.hid hik
  have HXS := Lib.hid hxs
  have HIL := Lib.hid hil
  obtain ⟨haw, hae, hal⟩ := kd_awake
  have HWA := fun W => writeRecords_any [] none 0 W (fun h => absurd rfl h) (fun a h => by cases h) (fun x hx => (List.not_mem_nil hx).elim) (by decide)
  unfold WrS at HWA
  rw [hae] at HWA
  have HRA := fun W => Lib.hid (readers_any awS W hal false false true 1 haw (.inr (.inr (.inl ⟨rfl, rfl, rfl, rfl⟩))))
  have haS : wrS 7 (recordsMay [] && !fBad (recordAll [])) (fB (recordAll [])) = awS := rfl
  rw [haS] at HWA
  obtain ⟨SA, hSA⟩ : ∃ SA, awS = SA := ⟨_, rfl⟩
  rw [hSA] at HWA HRA hal
  unfold secV at HWA HRA
  replace HWA := fun W => Lib.hid (HWA W)
  have HAL := Lib.hid hal
  clear hie hik hxs hX hil hSI haw hae hal haS hSA hx
  have hb1 : Below w.heap.size w ((w.alloc (.cells X 51 (0, 0))).alloc (.cells #[.int .u64 (seq : Int), .int .u64 (first : Int), .bool commit, .int .i64 next, .int .u32 (time : Int), .slice A L.length c] 55 (0, 0))) := ((Below.refl _ _).alloc (Nat.le_refl _) _).alloc (by simp) _
  have hG1 := old_heap (heap_alloc_last w (.cells X 51 (0, 0))) ((Below.refl _ _).alloc (Nat.le_refl _) (.cells #[.int .u64 (seq : Int), .int .u64 (first : Int), .bool commit, .int .i64 next, .int .u32 (time : Int), .slice A L.length c] 55 (0, 0)))
  have hS1 := heap_alloc_last (w.alloc (.cells X 51 (0, 0))) (.cells #[.int .u64 (seq : Int), .int .u64 (first : Int), .bool commit, .int .i64 next, .int .u32 (time : Int), .slice A L.length c] 55 (0, 0))
  rw [show (w.alloc (.cells X 51 (0, 0))).heap.size = w.heap.size + 1 by simp] at hS1
  have HB1 := Lib.hid hb1
  have HI1 := Lib.hid hG1
  have HS1 := Lib.hid hS1
  clear hb1 hG1 hS1
  go_enter Try.func4, Try.ntmps4
  go_upto_region 1 with fail
  revert HB1 HI1 HS1
  generalize (w.alloc (.cells X 51 (0, 0))).alloc (.cells #[.int .u64 (seq : Int), .int .u64 (first : Int), .bool commit, .int .i64 next, .int .u32 (time : Int), .slice A L.length c] 55 (0, 0)) = w2
  intro HB1 HI1 HS1
  have k5 : w2.cell? ⟨w.heap.size + 1, 5, none⟩ = some (.slice A L.length c) := cell_row HS1.out 5
  have k6 := free_row HS1.out 5
  go_upto_if 17 with fail
  go_cut [] (fun wc => ∃ M : List Ent5, M.length ≤ 8 ∧ Hid (ReadAt w A Ent5.cells 4 M) ∧ Hid (∀ x ∈ M, x.Ok) ∧ Hid (wc.heap[w.heap.size + 1]? = some (.cells #[.int .u64 (seq : Int), .int .u64 (first : Int), .bool commit, .int .i64 next, .int .u32 (time : Int), .slice A M.length c] 55 (0, 0))) ∧ Hid (wc.heap[w.heap.size]? = some (.cells X 51 (0, 0))) ∧ Hid (Below w.heap.size w wc))
  case first =>
    by_cases hlen : 8 < L.length
    · have hlI : (8 : Int) < (L.length : Int) := by omega
      have h12c : (8 : Int) ≤ (c : Int) := by omega
      have htl : (L.take 8).length = 8 := by rw [List.length_take]; omega
      have HTL := Lib.hid htl
      clear htl hlen
      go_wp2
      go_meet
      case rel =>
        refine ⟨L.take 8, by rw [HTL.out]; exact Nat.le_refl _, Lib.hid ?_, Lib.hid (fun x hx => HOK.out x (List.mem_of_mem_take hx)), Lib.hid ?_, Lib.hid ?_, Lib.hid (HB1.out.setCell (p := ⟨w.heap.size + 1, 5, none⟩) (Nat.le_succ _) _)⟩
        · have hq := HR.out
          intro hne
          obtain ⟨bb, oo, e1, e2⟩ := hq (fun e => hne (by rw [e]; rfl))
          refine ⟨bb, oo, e1, fun i x hx j hj => e2 i x ?_ j hj⟩
          have hi : i < (L.take 8).length := (List.getElem?_eq_some_iff.1 hx).1
          rw [List.getElem?_take_of_lt (by rw [HTL.out] at hi; exact hi)] at hx
          exact hx
        · rw [HTL.out]
          have := head_set HS1.out 5 (.slice A 8 c)
          simpa using this
        · exact heap_set HI1.out (a := ⟨w.heap.size + 1, 5, none⟩) (by simp) _
    · have hlI : ¬ ((8 : Int) < (L.length : Int)) := by omega
      go_wp2
      go_meet
      case rel => exact ⟨L, by omega, HR, HOK, HS1, HI1, HB1⟩
  case rest =>
  obtain ⟨M, hM, HRM, HOM, HS2, HI2, HB2⟩ := hcut
  clear HR HOK HS1 HI1 HB1 k5 k6 hLc
  have hox : (Smy.mk seq first commit next time M).Ok := ⟨HPR.out.1, HPR.out.2.1, HPR.out.2.2.1, HPR.out.2.2.2, HOM.out, by show M.length ≤ 1000; omega⟩
  have hC0 := hcc M
  obtain ⟨y, hyy⟩ : ∃ y : Smy, Smy.mk seq first commit next time M = y := ⟨_, rfl⟩
  have hye : y.ents = M := by rw [← hyy]
  obtain ⟨C, hC⟩ : ∃ C, y.cells (.slice A y.ents.length c) = C := ⟨_, rfl⟩
  rw [hyy] at hox hC0
  rw [← hC0, hC] at HS2
  have HCS : Hid (C.size = 6) := by rw [← hC]; exact rfl
  have hro : ReadAt w A Ent5.cells 4 y.ents := by rw [hye]; exact HRM.out
  obtain ⟨oks, hoks⟩ : ∃ b, sumB y = b := ⟨_, rfl⟩
  obtain ⟨hse, hsk⟩ := kd_summary y hox oks hoks
  have hsl := sumS_length y
  have HLS : ∀ W, Below w.heap.size w W → Hid (Calls Try.prog 24 #[.agg C] W fun e w' => ∃ v', e = .returned (.agg (y.cells v')) ∧ w'.ownsRow W.heap.size 155 4 v' y.ents.length (rowsOf Ent5.cells y.ents) ∧ Below W.heap.size W w') := fun W hb => Lib.hid (by
    rw [← hC]
    exact lsummary_any y A c W (hro.below Ent5.cells_len hb) (by rw [hye]; omega))
  have HWS : ∀ s c' W, ReadAt W s Ent5.cells 4 y.ents → (∀ a, s = some a → a.block < W.heap.size) → Hid (Calls Try.prog 23 #[.agg (y.cells (.slice s y.ents.length c'))] W fun e w' => e = .returned (.tuple #[.agg (bvs (sumS y)).toArray, .int .i64 (okE oks)]) ∧ Below W.heap.size W w') := fun s c' W h1 h2 => Lib.hid ((writeSummary_any y hox s c' W h1 h2).mono fun e w' h => by
    have h3 := h.1
    rw [hse] at h3
    exact ⟨h3, h.2⟩)
  obtain ⟨SS, hSS⟩ : ∃ SS, sumS y = SS := ⟨_, rfl⟩
  rw [hSS] at hsl hsk
  simp only [hSS] at HWS
  have HSK := Lib.hid hsk
  have HSL := Lib.hid hsl
  clear hox hC0 hyy hye hC hro hoks hse hsk hsl hSS hcc hM HRM HOM HPR
  go_upto_region 4 with (first
    | (go_at_call 18; (refine (HWA _).out.mono ?_); rintro e w3 ⟨rfl, hb3⟩; have HB3 := Lib.hid (bnext HB2.out hb3); have HI3 := Lib.hid (old_heap HI2.out hb3); have HS3 := Lib.hid (old_heap HS2.out hb3); clear hb3)
    | (refine wpList_store_row rfl 36 (.tmp 7) (.tmp 24) rfl w3.heap.size zArr (bvs SA).toArray 36 rfl rfl (heap_alloc_last _ _) (by rw [secV_size, HAL.out]; exact size_sec) (by rw [secV_size, HAL.out, zArr_size]) (sec_one _) ?_))
  rw [World.setRow_alloc_new]
  have hbn := (Below.refl w3.heap.size w3).alloc (Nat.le_refl _) (.cells (bvs SA).toArray 36 (0, 0))
  have HB4 := Lib.hid (bnext HB3.out hbn)
  have HT4 := Lib.hid (heap_alloc_last w3 (.cells (bvs SA).toArray 36 (0, 0)))
  have HI4 := Lib.hid (old_heap HI3.out hbn)
  have HS4 := Lib.hid (old_heap HS3.out hbn)
  clear hbn HB3 HI3 HS3
  revert HB4 HT4 HI4 HS4
  generalize w3.alloc (.cells (bvs SA).toArray 36 (0, 0)) = w4
  generalize w3.heap.size = p3
  intro HB4 HT4 HI4 HS4
  clear HB2 HI2 HS2 HWA
  go_upto_region 6 with (first
    | (refine wpList_load_row_g (by rfl) 36 (.tmp 7) rfl p3 rfl _ _ _ _ HT4.out Try.underlying36 rfl (by rw [secV_size, HAL.out]; exact size_sec) ?_)
    | (go_at_call 19; (refine (HRA _).out.mono ?_); rintro e w5 ⟨rfl, hb5⟩; have HB5 := Lib.hid (bnext HB4.out hb5); have HI5 := Lib.hid (old_heap HI4.out hb5); have HS5 := Lib.hid (old_heap HS4.out hb5); clear hb5))
  clear HB4 HI4 HS4 HT4 HRA
  go_upto_region 7 with (first
    | (refine wpList_load_row rfl 51 (.tmp 3) rfl w.heap.size rfl _ _ _ _ HI5.out Try.underlying51 rfl (by rw [HXS.out]; exact infoRInode) ?_)
    | (go_at_call 21; (refine (HLI _).out.mono ?_); rintro e w6 ⟨rfl, hb6⟩; have HB6 := Lib.hid (bnext HB5.out hb6); have HS6 := Lib.hid (old_heap HS5.out hb6); clear hb6)
    | (go_at_call 20; (refine (HWI _).out.mono ?_); rintro e w7 ⟨rfl, hb7⟩; have HB7 := Lib.hid (bnext HB6.out hb7); have HS7 := Lib.hid (old_heap HS6.out hb7); clear hb7)
    | (refine wpList_store_row rfl 36 (.tmp 9) (.tmp 37) rfl w7.heap.size zArr (bvs SI).toArray 36 rfl rfl (heap_alloc_last _ _) (by rw [secV_size, HIL.out]; exact size_sec) (by rw [secV_size, HIL.out, zArr_size]) (sec_one _) ?_))
  rw [World.setRow_alloc_new]
  have hbn := (Below.refl w7.heap.size w7).alloc (Nat.le_refl _) (.cells (bvs SI).toArray 36 (0, 0))
  have HB8 := Lib.hid (bnext HB7.out hbn)
  have HT8 := Lib.hid (heap_alloc_last w7 (.cells (bvs SI).toArray 36 (0, 0)))
  have HS8 := Lib.hid (old_heap HS7.out hbn)
  clear hbn HB7 HS7
  revert HB8 HT8 HS8
  generalize w7.alloc (.cells (bvs SI).toArray 36 (0, 0)) = w8
  generalize w7.heap.size = p7
  intro HB8 HT8 HS8
  clear HB5 HI5 HS5 HB6 HS6 HLI HWI HXS
  go_cut [50] (fun t wc => t = .bool false ∧ Hid (Below w.heap.size w wc) ∧ Hid (wc.heap[w.heap.size + 1]? = some (.cells C 55 (0, 0))))
  case first =>
    cases oki with
    | false =>
      rw [show okE false = 1 from rfl]
      go_wp2
      go_meet
      case rel => exact ⟨rfl, HB8, HS8⟩
    | true =>
      rw [show okE true = 0 from rfl]
      obtain ⟨k1, k2⟩ := HIK.out rfl
      have HRI := fun W => Lib.hid (readers_any SI W HIL.out true false false 1 k1 (.inl ⟨rfl, rfl, rfl, rfl⟩))
      have HIS : ∀ W, Hid (Calls Try.prog 22 #[.agg (bvs SI).toArray, .int .u8 2] W (RetT W true)) := fun W => Lib.hid (by
        have h := is_any SI 2 W HIL.out
        rw [k2] at h
        exact h)
      unfold secV at HRI
      clear k1 k2
      go_wp2_with (first
        | (go_at_call 22; refine (HIS _).out.mono ?_; rintro e wb ⟨rfl, hbb⟩; have HBb := Lib.hid (bnext HBa.out hbb); have HSb := Lib.hid (old_heap HSa.out hbb); clear hbb)
        | (go_at_call 19; refine (HRI _).out.mono ?_; rintro e wa ⟨rfl, hba⟩; have HBa := Lib.hid (bnext HB8.out hba); have HSa := Lib.hid (old_heap HS8.out hba); have HTa := Lib.hid (old_heap HT8.out hba); clear hba)
        | (have q := HTa; clear q; refine wpList_load_row_g (by rfl) 36 (.tmp 9) rfl p7 rfl _ _ _ _ HTa.out Try.underlying36 rfl (by rw [secV_size, HIL.out]; exact size_sec) ?_)
        | (refine wpList_load_row_g (by rfl) 36 (.tmp 9) rfl p7 rfl _ _ _ _ HT8.out Try.underlying36 rfl (by rw [secV_size, HIL.out]; exact size_sec) ?_))
      go_meet
      case rel => exact ⟨rfl, HBb, HSb⟩
  case rest =>
  obtain ⟨rfl, HBc, HSc⟩ := hcut
  obtain ⟨wr, hwr⟩ : ∃ wr, wr = wc := ⟨_, rfl⟩
  rw [← hwr] at HBc HSc ⊢
  clear hwr HB8 HT8 HS8 HIK HIL
  go_upto_region 10 with (first
    | (refine wpList_load_row rfl 55 (.tmp 4) rfl (w.heap.size + 1) rfl _ _ _ _ HSc.out Try.underlying55 rfl (by rw [HCS.out]; exact infoRSum) ?_)
    | (go_at_call 24; (refine (HLS _ HBc.out).out.mono ?_); rintro e w9 ⟨v9, rfl, ho9, hb9⟩; obtain ⟨s9, c9, rfl⟩ := own_slice1 ho9; have hro9 := own_readS ho9 rfl; have HW9 := HWS s9 c9 _ hro9.1 hro9.2; have HB9 := Lib.hid (bnext HBc.out hb9); clear ho9 hb9 hro9)
    | (go_at_call 23; (refine HW9.out.mono ?_); rintro e wd ⟨rfl, hbd⟩; have HBd := Lib.hid (bnext HB9.out hbd); clear hbd)
    | (refine wpList_store_row rfl 36 (.tmp 11) (.tmp 55) rfl wd.heap.size zArr (bvs SS).toArray 36 rfl rfl (heap_alloc_last _ _) (by rw [secV_size, HSL.out]; exact size_sec) (by rw [secV_size, HSL.out, zArr_size]) (sec_one _) ?_))
  rw [World.setRow_alloc_new]
  have hbn := (Below.refl wd.heap.size wd).alloc (Nat.le_refl _) (.cells (bvs SS).toArray 36 (0, 0))
  have HBe := Lib.hid (bnext HBd.out hbn)
  have HTe := Lib.hid (heap_alloc_last wd (.cells (bvs SS).toArray 36 (0, 0)))
  clear hbn HBd 
  revert HBe HTe 
  generalize wd.alloc (.cells (bvs SS).toArray 36 (0, 0)) = we
  generalize wd.heap.size = pd
  intro HBe HTe 
  clear HBc HSc HB9 HW9 HLS HWS HCS
  go_cut [68] (fun t wc => t = .bool false ∧ Hid (Below w.heap.size w wc))
  case first =>
    cases oks with
    | false =>
      rw [show okE false = 1 from rfl]
      go_wp2
      go_meet
      case rel => exact ⟨rfl, HBe⟩
    | true =>
      rw [show okE true = 0 from rfl]
      obtain ⟨k1, k2⟩ := HSK.out rfl
      have HRI := fun W => Lib.hid (readers_any SS W HSL.out false true false 1 k1 (.inr (.inl ⟨rfl, rfl, rfl, rfl⟩)))
      have HIS : ∀ W, Hid (Calls Try.prog 22 #[.agg (bvs SS).toArray, .int .u8 3] W (RetT W true)) := fun W => Lib.hid (by
        have h := is_any SS 3 W HSL.out
        rw [k2] at h
        exact h)
      unfold secV at HRI
      clear k1 k2
      go_wp2_with (first
        | (go_at_call 22; refine (HIS _).out.mono ?_; rintro e wb ⟨rfl, hbb⟩; have HBb := Lib.hid (bnext HBa.out hbb); clear hbb)
        | (go_at_call 19; refine (HRI _).out.mono ?_; rintro e wa ⟨rfl, hba⟩; have HBa := Lib.hid (bnext HBe.out hba); have HTa := Lib.hid (old_heap HTe.out hba); clear hba)
        | (have q := HTa; clear q; refine wpList_load_row_g (by rfl) 36 (.tmp 11) rfl pd rfl _ _ _ _ HTa.out Try.underlying36 rfl (by rw [secV_size, HSL.out]; exact size_sec) ?_)
        | (refine wpList_load_row_g (by rfl) 36 (.tmp 11) rfl pd rfl _ _ _ _ HTe.out Try.underlying36 rfl (by rw [secV_size, HSL.out]; exact size_sec) ?_))
      go_meet
      case rel => exact ⟨rfl, HBb⟩
  case rest =>
  obtain ⟨rfl, HBf⟩ := hcut
  obtain ⟨wr2, hwr⟩ : ∃ wr, wr = wc := ⟨_, rfl⟩
  rw [← hwr] at HBf ⊢
  clear hwr HBe HTe HSK HSL
  go_upto_if 71 with fail
  go_cut [2] (fun v wc => StrV v ∧ Hid (Below w.heap.size w wc))
  case first =>
    by_cases h60 : 60 < s.size
    · have h60I : (60 : Int) < (s.size : Int) := by omega
      go_wp2
      go_meet
      case rel => exact ⟨⟨_, rfl⟩, HBf⟩
    · have h60I : ¬ (60 : Int) < (s.size : Int) := by omega
      go_wp2
      go_meet
      case rel => exact ⟨⟨_, rfl⟩, HBf⟩
  case rest =>
  obtain ⟨⟨s2, rfl⟩, HBg⟩ := hcut
  obtain ⟨wr3, hwr⟩ : ∃ wr, wr = wc := ⟨_, rfl⟩
  rw [← hwr] at HBg ⊢
  clear hwr HBf
  have HDW := fun W => Lib.hid (dwrite_any 7 9 0 0 s2 ⟨#[46, 46]⟩ .empty .empty W)
  have HGD := fun W => Lib.hid (good_any s2 W)
  unfold entsV at HDW
  dsimp only at HDW
  have hdl := dw_length (dirE s2 .empty)
  by_cases hg : goodE s2.data.toList = 0
  · obtain ⟨hkd, hde⟩ := kd_dir s2 .empty rfl hg
    have hde2 : dwE [(7, s2), (9, ⟨#[46, 46]⟩), (0, .empty), (0, .empty)] = 0 := hde
    rw [hde2] at HDW
    rw [hg] at HGD
    obtain ⟨SD, hSD⟩ : ∃ SD, dwS (dirE s2 .empty) = SD := ⟨_, rfl⟩
    have hSD2 : dwS [(7, s2), (9, ⟨#[46, 46]⟩), (0, .empty), (0, .empty)] = SD := hSD
    rw [hSD2] at HDW
    rw [hSD] at hkd hdl
    have HRI := fun W => Lib.hid (readers_any SD W hdl false false false 0 hkd (.inr (.inr (.inr ⟨rfl, rfl, rfl, rfl⟩))))
    have HDL := Lib.hid hdl
    unfold secV at HDW HRI
    clear hkd hde hde2 hSD hSD2 hdl hg
    go_upto_region 15 with (first
      | (go_at_call 25; go_must (refine (HDW _).out.mono ?_; rintro e wh ⟨rfl, hbh⟩; have HBh := Lib.hid (bnext HBg.out hbh); clear hbh))
      | (refine wpList_store_row rfl 36 (.tmp 13) (.tmp 80) rfl wh.heap.size zArr (bvs SD).toArray 36 rfl rfl (heap_alloc_last _ _) (by rw [secV_size, HDL.out]; exact size_sec) (by rw [secV_size, HDL.out, zArr_size]) (sec_one _) ?_))
    rw [World.setRow_alloc_new]
    have hbn := (Below.refl wh.heap.size wh).alloc (Nat.le_refl _) (.cells (bvs SD).toArray 36 (0, 0))
    have HBi := Lib.hid (bnext HBh.out hbn)
    have HTi := Lib.hid (heap_alloc_last wh (.cells (bvs SD).toArray 36 (0, 0)))
    clear hbn HBh 
    revert HBi HTi 
    generalize wh.alloc (.cells (bvs SD).toArray 36 (0, 0)) = wi
    generalize wh.heap.size = pi
    intro HBi HTi 
    clear HBg HDW
    go_wp2_with (first
      | (go_at_call 19; refine (HRI _).out.mono ?_; rintro e wj ⟨rfl, hbj⟩; have HBj := Lib.hid (bnext HBi.out hbj); clear hbj)
      | (go_at_call 26; refine (HGD _).out.mono ?_; rintro e wk ⟨rfl, rfl⟩)
      | (refine wpList_load_row rfl 36 (.tmp 13) rfl pi rfl _ _ _ _ HTi.out Try.underlying36 rfl (by rw [secV_size, HDL.out]; exact size_sec) ?_))
    go_ret
    exact ⟨rfl, HBj.out⟩
  · have hde := dir_no s2 .empty rfl hg
    have hde2 : dwE [(7, s2), (9, ⟨#[46, 46]⟩), (0, .empty), (0, .empty)] = 1 := hde
    rw [hde2] at HDW
    obtain ⟨SD, hSD⟩ : ∃ SD, dwS (dirE s2 .empty) = SD := ⟨_, rfl⟩
    have hSD2 : dwS [(7, s2), (9, ⟨#[46, 46]⟩), (0, .empty), (0, .empty)] = SD := hSD
    rw [hSD2] at HDW
    rw [hSD] at hdl
    have HDL := Lib.hid hdl
    obtain ⟨ge, hge⟩ : ∃ ge, goodE s2.data.toList = ge := ⟨_, rfl⟩
    rw [hge] at HGD hg
    unfold secV at HDW
    have hgb : (ge != 0) = true := by simpa using hg
    clear hde hde2 hSD hSD2 hdl hge
    go_upto_region 15 with (first
      | (go_at_call 25; go_must (refine (HDW _).out.mono ?_; rintro e wh ⟨rfl, hbh⟩; have HBh := Lib.hid (bnext HBg.out hbh); clear hbh))
      | (refine wpList_store_row rfl 36 (.tmp 13) (.tmp 80) rfl wh.heap.size zArr (bvs SD).toArray 36 rfl rfl (heap_alloc_last _ _) (by rw [secV_size, HDL.out]; exact size_sec) (by rw [secV_size, HDL.out, zArr_size]) (sec_one _) ?_))
    rw [World.setRow_alloc_new]
    have hbn := (Below.refl wh.heap.size wh).alloc (Nat.le_refl _) (.cells (bvs SD).toArray 36 (0, 0))
    have HBi := Lib.hid (bnext HBh.out hbn)
    have HTi := Lib.hid (heap_alloc_last wh (.cells (bvs SD).toArray 36 (0, 0)))
    clear hbn HBh 
    revert HBi HTi 
    generalize wh.alloc (.cells (bvs SD).toArray 36 (0, 0)) = wi
    generalize wh.heap.size = pi
    intro HBi HTi 
    clear HBg HDW
    go_wp2_with (go_at_call 26; refine (HGD _).out.mono ?_; rintro e wk ⟨rfl, rfl⟩)
    go_ret
    exact ⟨rfl, HBi.out⟩
#print axioms drumlinKinds_walk
end Go.Proofs.Ytcpfafmkhegckaa
/-
  An inode of the reference's that came in, opened.
-/
namespace Go.Proofs.Ytcpfafmkhegckaa
open Go.ChangeShapes Go.WideShapes Go.ChangeAt Go.RowKit Go.Deep
set_option linter.unusedVariables false
set_option linter.unusedSimpArgs false
set_option linter.unnecessarySimpa false
set_option maxRecDepth 10000
theorem drop_end {l : List Value} {n : Nat} (h : l.length = n) : l.drop n = [] := by rw [← h]; exact List.drop_length
section
variable {H : Type} {enc : TypeId × Value → H} {W : World} {base : Nat} {spare : Nat → Bool} {held : Bool}
/-- An argument that is a struct. -/
theorem open_rowG {α : Type} {t : TypeId} {fs : Array Field} {f : α → List Value} {good : α → Prop} {v : Value} {d : DataW H} {ps : List MemPlace} {r : Reach} {b0 : Nat} (hu : Try.prog.underlying t = some (.struct fs))
    (he : Good enc Try.prog W base spare held t f good) (hv : Value.okWide Try.prog W r b0 t v) (h : DataW.Trod enc Try.prog W base spare held t v d ps) : ∃ a, v = .agg (f a).toArray ∧ good a := by
  have hagg : ∃ cs, v = .agg cs := by
    unfold Value.okWide at hv
    rw [hu] at hv
    obtain ⟨cs, h1, _⟩ := hv
    exact ⟨cs, h1⟩
  obtain ⟨cs, rfl⟩ := hagg
  obtain ⟨fuel, hf⟩ := h
  obtain ⟨a, ha, hg⟩ := he fuel _ _ hf
  have q2 : (Value.agg cs).cells.toList = cs.toList := rfl
  rw [q2] at ha
  exact ⟨a, by rw [← ha], hg⟩
theorem i64_of {b : Int} (wb : (Lit.int .i64 b).wf = true) : I64 b := by
  have : -9223372036854775808 ≤ b ∧ b ≤ 9223372036854775807 := by simpa [Lit.wf, IntKind.min, IntKind.max, IntKind.signed, IntKind.bits] using wb
  exact this
theorem u32_of {b : Int} (wb : (Lit.int .u32 b).wf = true) : ∃ n : Nat, b = (n : Int) ∧ n < 2 ^ 32 := by
  have : 0 ≤ b ∧ b ≤ 4294967295 := by simpa [Lit.wf, IntKind.min, IntKind.max, IntKind.signed, IntKind.bits] using wb
  exact ⟨b.toNat, by omega, by omega⟩
theorem u64_of {b : Int} (wb : (Lit.int .u64 b).wf = true) : ∃ n : Nat, b = (n : Int) ∧ n < 2 ^ 64 := by
  have : 0 ≤ b ∧ b ≤ 18446744073709551615 := by simpa [Lit.wf, IntKind.min, IntKind.max, IntKind.signed, IntKind.bits] using wb
  exact ⟨b.toNat, by omega, by omega⟩
theorem rowsOf_ints (L : List Int) : rowsOf (fun z : Int => [Value.int .i64 z]) L = L.map (Value.int .i64 ·) := by
  induction L with
  | nil => rfl
  | cons x r ih => rw [rowsOf_cons, ih]; rfl
theorem good_ino : Good enc Try.prog W base spare held 51 Ino.cells Ino.Ok :=
  good_struct Try.underlying51 (fun n cs hl hf => by
    obtain ⟨⟨a0, h0, w0⟩, hf⟩ := struct_cons (o := 0) (k := 1) (by rfl) (by kernel_rfl) (good_int Try.underlying48) hf
    obtain ⟨⟨a1, h1, w1⟩, hf⟩ := struct_cons (o := 1) (k := 1) (by rfl) (by kernel_rfl) (good_int Try.underlying48) hf
    obtain ⟨⟨a2, h2, w2⟩, hf⟩ := struct_cons (o := 2) (k := 1) (by rfl) (by kernel_rfl) (good_int Try.underlying3) hf
    obtain ⟨⟨a3, h3, w3⟩, hf⟩ := struct_cons (o := 3) (k := 1) (by rfl) (by kernel_rfl) (good_int Try.underlying3) hf
    obtain ⟨⟨a4, h4, w4⟩, hf⟩ := struct_cons (o := 4) (k := 1) (by rfl) (by kernel_rfl) (good_int Try.underlying48) hf
    obtain ⟨⟨a5, h5, w5, v5⟩, hf⟩ := struct_cons (o := 5) (k := 8) (by rfl) (by kernel_rfl) (good_array (n := 8) (k := 1) Try.underlying49 (by kernel_rfl) (by kernel_rfl) (good_int Try.underlying3)) hf
    obtain ⟨⟨a6, h6, w6⟩, hf⟩ := struct_cons (o := 13) (k := 1) (by rfl) (by kernel_rfl) (good_int Try.underlying3) hf
    obtain ⟨⟨a7, h7, w7⟩, hf⟩ := struct_cons (o := 14) (k := 1) (by rfl) (by kernel_rfl) (good_int Try.underlying3) hf
    have hlen : cs.length = 15 := hl.trans (by kernel_rfl)
    obtain ⟨n0, rfl, l0⟩ := u32_of w0
    obtain ⟨n1, rfl, l1⟩ := u32_of w1
    obtain ⟨n4, rfl, l4⟩ := u32_of w4
    rw [List.drop_zero] at h0
    rw [h0, h1, h2, h3, h4, h5, h6, h7, drop_end hlen, rowsOf_ints]
    exact ⟨⟨n0, n1, a2, a3, n4, a5, a6, a7⟩, by simp [Ino.cells, inoF], ⟨l0, l1, i64_of w2, i64_of w3, l4, w5, fun d hd => i64_of (v5 d hd), i64_of w6, i64_of w7⟩⟩)
end
end Go.Proofs.Ytcpfafmkhegckaa
/-
  A summary of the reference's that came in, opened.
-/
namespace Go.Proofs.Ytcpfafmkhegckaa
open Go.ChangeShapes Go.WideShapes Go.ChangeAt Go.RowKit Go.Deep
set_option linter.unusedVariables false
set_option linter.unusedSimpArgs false
set_option linter.unnecessarySimpa false
set_option maxRecDepth 10000
structure SumIn where
  x : Smy
  A : Option Addr
  c : Nat
def SumIn.cells (s : SumIn) : List Value := [.int .u64 (s.x.seq : Int), .int .u64 (s.x.first : Int), .bool s.x.commit, .int .i64 s.x.next, .int .u32 (s.x.time : Int), .slice s.A s.x.ents.length s.c]
structure SumIn.Good (W : World) (s : SumIn) : Prop where
  pre : s.x.Pre
  len : s.x.ents.length ≤ s.c
  cap : s.c ≤ maxLen
  read : ReadAt W s.A Ent5.cells 4 s.x.ents
section
variable {H : Type} {enc : TypeId × Value → H} {W : World} {base : Nat} {spare : Nat → Bool} {held : Bool}
theorem good_ent : Good enc Try.prog W base spare held 154 Ent5.cells Ent5.Ok :=
  good_struct Try.underlying154 (fun n cs hl hf => by
    obtain ⟨⟨a0, h0, w0⟩, hf⟩ := struct_cons (o := 0) (k := 1) (by rfl) (by kernel_rfl) (good_int Try.underlying3) hf
    obtain ⟨⟨a1, h1, w1⟩, hf⟩ := struct_cons (o := 1) (k := 1) (by rfl) (by kernel_rfl) (good_int Try.underlying48) hf
    obtain ⟨⟨a2, h2, w2⟩, hf⟩ := struct_cons (o := 2) (k := 1) (by rfl) (by kernel_rfl) (good_int Try.underlying48) hf
    obtain ⟨⟨a3, h3, w3⟩, hf⟩ := struct_cons (o := 3) (k := 1) (by rfl) (by kernel_rfl) (good_int Try.underlying3) hf
    have hlen : cs.length = 4 := hl.trans (by kernel_rfl)
    obtain ⟨n1, rfl, l1⟩ := u32_of w1
    obtain ⟨n2, rfl, l2⟩ := u32_of w2
    rw [List.drop_zero] at h0
    rw [h0, h1, h2, h3, drop_end hlen]
    exact ⟨⟨a0, n1, n2, a3⟩, by simp [Ent5.cells], ⟨i64_of w0, l1, l2, i64_of w3⟩⟩)
theorem good_sum : Good enc Try.prog W base spare held 55 SumIn.cells (SumIn.Good W) :=
  good_struct Try.underlying55 (fun n cs hl hf => by
    obtain ⟨⟨a0, h0, w0⟩, hf⟩ := struct_cons (o := 0) (k := 1) (by rfl) (by kernel_rfl) (good_int Try.underlying52) hf
    obtain ⟨⟨a1, h1, w1⟩, hf⟩ := struct_cons (o := 1) (k := 1) (by rfl) (by kernel_rfl) (good_int Try.underlying52) hf
    obtain ⟨⟨a2, h2, w2⟩, hf⟩ := struct_cons (o := 2) (k := 1) (by rfl) (by kernel_rfl) (good_bool Try.underlying4) hf
    obtain ⟨⟨a3, h3, w3⟩, hf⟩ := struct_cons (o := 3) (k := 1) (by rfl) (by kernel_rfl) (good_int Try.underlying3) hf
    obtain ⟨⟨a4, h4, w4⟩, hf⟩ := struct_cons (o := 4) (k := 1) (by rfl) (by kernel_rfl) (good_int Try.underlying48) hf
    obtain ⟨⟨a5, h5, w5⟩, hf⟩ := struct_cons (o := 5) (k := 1) (by rfl) (by kernel_rfl) (good_slice Try.underlying53 (by kernel_rfl) (by decide) Ent5.cells_len good_ent) hf
    have hlen : cs.length = 6 := hl.trans (by kernel_rfl)
    obtain ⟨n0, rfl, l0⟩ := u64_of w0
    obtain ⟨n1, rfl, l1⟩ := u64_of w1
    obtain ⟨n4, rfl, l4⟩ := u32_of w4
    obtain ⟨A, c, L⟩ := a5
    obtain ⟨q1, q2, q3, q4⟩ := w5
    rw [List.drop_zero] at h0
    rw [h0, h1, h2, h3, h4, h5, drop_end hlen]
    exact ⟨⟨⟨n0, n1, a2, a3, n4, L⟩, A, c⟩, by simp [SumIn.cells, sliF], ⟨⟨l0, l1, i64_of w3, l4, q3⟩, q1, q2, q4⟩⟩)
end
end Go.Proofs.Ytcpfafmkhegckaa
/-
  DrumlinKinds: for every inode, every summary and every name the law returns true, and what came in reads as it did. Conditions: none but the form's own.
-/
namespace Go.Proofs.Ytcpfafmkhegckaa
open Go.ChangeShapes Go.WideShapes Go.ChangeAt Go.RowKit
set_option linter.unusedVariables false
set_option maxRecDepth 100000 in
theorem drumlinKinds_lifted (os : Os) (started : os.Started) (H : Type) (enc : TypeId × Value → H) :
    ReturnsInHanded {} Try.checked os 4 .any (Rows.drumlinKindsSpec.pre6 enc Try.prog Try.f4 Rows.drumlinKindsRow.domain false) (Rows.drumlinKindsSpec.post enc Try.prog Try.f4 false true false false) := by
  refine returnsInHanded_of_change_sized (C := Try.checked) own_ started (by kernel_rfl) Try.func4
    (ChangeSpec.witness6 (enc := enc) (C := Try.checked) false ⟨#[], #[.agg #[.int .u32 0, .int .u32 0, .int .i64 0, .int .i64 0, .int .u32 0, .int .i64 0, .int .i64 0, .int .i64 0, .int .i64 0, .int .i64 0, .int .i64 0, .int .i64 0, .int .i64 0, .int .i64 0, .int .i64 0], .agg #[.int .u64 0, .int .u64 0, .bool false, .int .i64 0, .int .u32 0, .slice none 0 0], .string ⟨#[]⟩], []⟩ 12 (by kernel_rfl) (by kernel_rfl) (by kernel_rfl) (by kernel_rfl)) ?_
  intro W base args ds gs before hval0 hW hcnd hsz0 _
  have hsz : (DataW.weightsEach Try.prog (Try.f4.params.toList ++ Rows.drumlinKindsSpec.plain.varTypes Try.prog) (ds ++ gs)).all (· ≤ reachBytes) = true := hsz0
  have hval : ∀ (j : Nat) t v, Try.f4.params[j]? = some t → args[j]? = some v → Value.okWide Try.prog W .any base t v := hval0
  have hW' := hW
  obtain ⟨p, q, hA0, hV, rfl, hfz, hnd⟩ := hW
  have hA : DataW.TrodAll enc Try.prog W 0 (fun _ => true) true Try.f4.params.toList args.toList ds p := hA0
  rw [Try.params4] at hA hval hsz
  obtain ⟨v0, vs0, d0, ds0, p0, q0, hargs, rfl, rfl, h0, r0⟩ := trodAll_cons hA
  obtain ⟨v1, vs1, d1, ds1, p1, q1, rfl, rfl, rfl, h1, r1⟩ := trodAll_cons r0
  obtain ⟨v2, vs2, d2, ds2, p2, q2, rfl, rfl, rfl, h2, r2⟩ := trodAll_cons r1
  obtain ⟨rfl, rfl, rfl⟩ := trodAll_nil r2
  obtain rfl : args = #[v0, v1, v2] := by cases args; simp_all
  obtain ⟨rfl, rfl⟩ := trodVars_none hV
  have k0 := h0
  have lt0 := trod_places_lt k0
  have k1 := h1
  have lt1 := trod_places_lt k1
  have k2 := h2
  have lt2 := trod_places_lt k2
  obtain ⟨x0, rfl, hx0⟩ := open_rowG Try.underlying51 good_ino (hval 0 51 v0 rfl rfl) h0
  obtain ⟨x1, rfl, hx1⟩ := open_rowG Try.underlying55 good_sum (hval 1 55 v1 rfl rfl) h1
  obtain ⟨s2, rfl, hd2, _, hs2⟩ := Go.ChangeMaps.open_string Try.underlying9 (hval 2 9 v2 rfl rfl) h2
  have hl2 : s2.size ≤ 140737488351232 := by subst hd2; have := sized_string hsz (j := 2) (t := 9) rfl rfl; simpa [reachBytes] using this
  clear hA0 hval0 hsz0 hsz
  refine (drumlinKinds_walk x0 hx0 x1.x hx1.pre x1.A x1.c hx1.len hx1.cap s2 hl2 W hx1.read).mono fun e W' ⟨he, bel⟩ => ?_
  subst he
  exact ⟨_, rfl, _, _, _, [], _, [], hW', trodAll_mk1 (shut_bool Try.underlying4 _), (trodAll_cons_mk (Below.trod laidOut_ (by kernel_rfl) (of_decide_eq_true (by kernel_rfl)) k0 bel lt0) (trodAll_cons_mk (Below.trod laidOut_ (by kernel_rfl) (of_decide_eq_true (by kernel_rfl)) k1 bel lt1) (trodAll_cons_mk (Below.trod laidOut_ (by kernel_rfl) (of_decide_eq_true (by kernel_rfl)) k2 bel lt2) trodAll_mk0))), rfl, bel.frame _, fun h => by cases h⟩
/-- DrumlinKinds: for every inode, every summary and every name the law returns true, and what came in reads as it did. Conditions: none but the form's own. -/
theorem drumlinKinds_holds : Rows.DrumlinKindsSaid :=
  OpenClaim.holds_of_wide 4 Try.f4 rfl rfl rfl rfl rfl rfl rfl ⟨rfl, rfl, rfl, rfl, rfl⟩ rfl rfl rfl rfl rfl (by kernel_rfl) Try.func4 (by kernel_rfl)
    (of_decide_eq_true (by kernel_rfl)) (by unfold Func.isWrapper; first | (rw [if_pos (by decide +kernel)]; kernel_rfl) | (rw [if_neg (by decide +kernel)]; exact ⟨rfl, rfl⟩))
    (fun os started H enc _ => drumlinKinds_lifted os started H enc)
#print axioms drumlinKinds_holds
end Go.Proofs.Ytcpfafmkhegckaa
