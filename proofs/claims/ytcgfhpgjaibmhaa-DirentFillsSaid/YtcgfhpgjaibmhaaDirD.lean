/-
  A block of a directory is written: the walk of dirent.Write.
-/
import Derived.Test.YtcgfhpgjaibmhaaDirC
import Derived.Deep.DeepMust
namespace Go.Proofs.Ytcgfhpgjaibmhaa
open Go.RowKit
set_option linter.unusedVariables false
set_option linter.unusedSimpArgs false
theorem heap_keep {w w' : World} {g : Nat} {o : Obj} (h : w.heap[g]? = some o) (hb : Below w.heap.size w w') : w'.heap[g]? = some o := (hb.block g (Array.getElem?_eq_some_iff.1 h).1).trans h
def entsOk (l : List Ent) : Bool := entOk (l.getD 0 (0, .empty)) && entOk (l.getD 1 (0, .empty)) && entOk (l.getD 2 (0, .empty)) && entOk (l.getD 3 (0, .empty))
def dwS (l : List Ent) : List UInt8 := if entsOk l then entsB l 4 else List.replicate 128 0
def dwE (l : List Ent) : Int := if entsOk l then 0 else 1
/-- Four entries as a value. -/
def entsV (e0 e1 e2 e3 : Ent) : Value := .agg #[.int .i64 e0.1, .string e0.2, .int .i64 e1.1, .string e1.2, .int .i64 e2.1, .string e2.2, .int .i64 e3.1, .string e3.2]
theorem only_cell {g b : Nat} {w w' : World} (h : OnlyAt g w w') (hb : b < w.heap.size) (hne : b ≠ g) (i : Nat) : w'.cell? ⟨b, i, none⟩ = w.cell? ⟨b, i, none⟩ :=
  World.cell?_of_block (a := ⟨b, i, none⟩) (h.1.block b hb (by simp; exact hne))
theorem run_index_ent (w : World) (cs : Array Value) (j : Nat) (hj : j < 4) : (Instr.index 31 (.agg cs) (.int .i64 (j : Int))).run Try.prog w = .ok (.agg (cs.extract (j * 2) (j * 2 + 2))) w := by
  obtain ⟨i, hi⟩ := info_of_underlying (P := Try.prog) Try.underlying30
  have hc : Try.prog.cellsOf 30 = 2 := by kernel_rfl
  have h1 : (0 : Int) ≤ (j : Int) ∧ (j : Int) < 4 := by omega
  simp [Instr.index, asIntOf, run_underlying Try.underlying31, run_underlying Try.underlying30, Go.part, isAgg, run_sizeOf _ hi, hc, h1, hj]
theorem ents_len (l : List Ent) (j : Nat) (hj : j ≤ 4) (h : ∀ i, i < j → entOk (l.getD i (0, .empty)) = true) : (entsB l j).length = 32 * j := by
  induction j with
  | zero => rfl
  | succ j ih =>
    obtain ⟨k, _, _, h26⟩ := may_bounds (h j (by omega))
    simp only [entsB, List.length_append, ih (by omega) (fun i hi => h i (by omega)), entBs, entB_length _ _ h26]; omega
set_option maxHeartbeats 4000000 in
set_option maxRecDepth 10000 in
theorem dwrite_any (n0 n1 n2 n3 : Int) (s0 s1 s2 s3 : ByteArray) (w : World) :
    Calls Try.prog 15 #[entsV (n0, s0) (n1, s1) (n2, s2) (n3, s3)] w fun e w' => e = .returned (.tuple #[secV (dwS [(n0, s0), (n1, s1), (n2, s2), (n3, s3)]), .int .i64 (dwE [(n0, s0), (n1, s1), (n2, s2), (n3, s3)])]) ∧ Below w.heap.size w w' := by
  have hz := zero_sec
  have hzw := zero_writer
  unfold entsV
  go_enter Try.func15, Try.ntmps15
  go_upto_region 2 with fail
  go_wp2
  have hT3 : (((w.alloc (.cells #[.int .i64 n0, .string s0, .int .i64 n1, .string s1, .int .i64 n2, .string s2, .int .i64 n3, .string s3] 31 (0, 0))).alloc (.cells zArr 37 (0, 0))).alloc (.cells (wrCells ([], 0)) 57 (0, 0))).heap[w.heap.size + 1]? = some (.cells zArr 37 (0, 0)) := by
    have h1 := heap_alloc_last (w.alloc (.cells #[.int .i64 n0, .string s0, .int .i64 n1, .string s1, .int .i64 n2, .string s2, .int .i64 n3, .string s3] 31 (0, 0))) (.cells zArr 37 (0, 0))
    rw [show (w.alloc (.cells #[.int .i64 n0, .string s0, .int .i64 n1, .string s1, .int .i64 n2, .string s2, .int .i64 n3, .string s3] 31 (0, 0))).heap.size = w.heap.size + 1 by simp] at h1
    exact heap_keep h1 ((Below.refl _ _).alloc (Nat.le_refl _) _)
  have hW3 : WrAt (((w.alloc (.cells #[.int .i64 n0, .string s0, .int .i64 n1, .string s1, .int .i64 n2, .string s2, .int .i64 n3, .string s3] 31 (0, 0))).alloc (.cells zArr 37 (0, 0))).alloc (.cells (wrCells ([], 0)) 57 (0, 0))) (w.heap.size + 1 + 1) ([], 0) := ⟨by simp, by
    have h1 := heap_alloc_last ((w.alloc (.cells #[.int .i64 n0, .string s0, .int .i64 n1, .string s1, .int .i64 n2, .string s2, .int .i64 n3, .string s3] 31 (0, 0))).alloc (.cells zArr 37 (0, 0))) (.cells (wrCells ([], 0)) 57 (0, 0))
    rw [show ((w.alloc (.cells #[.int .i64 n0, .string s0, .int .i64 n1, .string s1, .int .i64 n2, .string s2, .int .i64 n3, .string s3] 31 (0, 0))).alloc (.cells zArr 37 (0, 0))).heap.size = w.heap.size + 1 + 1 by simp] at h1
    exact h1⟩
  have hB3 : Below w.heap.size w (((w.alloc (.cells #[.int .i64 n0, .string s0, .int .i64 n1, .string s1, .int .i64 n2, .string s2, .int .i64 n3, .string s3] 31 (0, 0))).alloc (.cells zArr 37 (0, 0))).alloc (.cells (wrCells ([], 0)) 57 (0, 0))) := (((Below.refl _ _).alloc (Nat.le_refl _) _).alloc (by simp) _).alloc (by simp; omega) _
  have hs3 : (((w.alloc (.cells #[.int .i64 n0, .string s0, .int .i64 n1, .string s1, .int .i64 n2, .string s2, .int .i64 n3, .string s3] 31 (0, 0))).alloc (.cells zArr 37 (0, 0))).alloc (.cells (wrCells ([], 0)) 57 (0, 0))).heap.size = w.heap.size + 3 := by simp
  revert hT3 hW3 hB3 hs3
  generalize ((w.alloc (.cells #[.int .i64 n0, .string s0, .int .i64 n1, .string s1, .int .i64 n2, .string s2, .int .i64 n3, .string s3] 31 (0, 0))).alloc (.cells zArr 37 (0, 0))).alloc (.cells (wrCells ([], 0)) 57 (0, 0)) = w3
  generalize hgw : w.heap.size + 1 + 1 = gw
  intro hT3 hW3 hB3 hs3
  have HT3 := Lib.hid hT3
  have HW3 := Lib.hid hW3
  have HB3 := Lib.hid hB3
  have HS3 := Lib.hid hs3
  have HGW := Lib.hid hgw
  clear hT3 hW3 hB3 hs3 hgw
  obtain ⟨E, hE⟩ : ∃ E : List Ent, E = [(n0, s0), (n1, s1), (n2, s2), (n3, s3)] := ⟨_, rfl⟩
  have HE := Lib.hid hE
  have HED : Hid (dwS E = dwS [(n0, s0), (n1, s1), (n2, s2), (n3, s3)] ∧ dwE E = dwE [(n0, s0), (n1, s1), (n2, s2), (n3, s3)]) := by rw [hE]; exact ⟨rfl, rfl⟩
  clear hE
  go_loopw [3, 8] (fun e i wr => ∃ j : Nat, j ≤ 4 ∧ i = .int .i64 j ∧ e = .int .i64 0 ∧ Hid (WrAt wr gw (entsB E j, 0)) ∧ Hid (Below gw w3 wr) ∧ Hid (∀ i, i < j → entOk (E.getD i (0, .empty)) = true)) (fun _ i _ => (4 - intOf i).toNat)
  case atStart => exact ⟨0, by omega, by rfl, rfl, HW3, Lib.hid (Below.refl _ _), Lib.hid (fun i h => by omega)⟩
  case round =>
    obtain ⟨j, hj, rfl, rfl, HW, HB, HOK⟩ := hrel
    have hlt : gw < wr.heap.size := (Array.getElem?_eq_some_iff.1 HW.out.2).1
    have HLT := Lib.hid hlt
    clear hlt
    by_cases hj4 : j = 4
    · subst hj4
      go_upto_region 11 with fail
      have hok : entsOk E = true := by unfold entsOk; rw [HOK.out 0 (by decide), HOK.out 1 (by decide), HOK.out 2 (by decide), HOK.out 3 (by decide)]; rfl
      have hd : dwS [(n0, s0), (n1, s1), (n2, s2), (n3, s3)] = entsB E 4 ∧ dwE [(n0, s0), (n1, s1), (n2, s2), (n3, s3)] = 0 := by
        rw [← HED.out.1, ← HED.out.2]; unfold dwS dwE; rw [hok]; exact ⟨rfl, rfl⟩
      have hl := ents_len E 4 (Nat.le_refl _) HOK.out
      have hzp : zpad 128 (entsB E 4) = entsB E 4 := by unfold zpad; rw [hl]; simp
      have HS := Lib.hid (wsector_ok gw (entsB E 4) wr HW.out)
      rw [hzp] at HS
      obtain ⟨m, hm⟩ : ∃ m, m = entsB E 4 := ⟨_, rfl⟩
      rw [← hm] at HS hd hl
      have HD := Lib.hid hd
      have HMS : Hid ((bvs m).toArray.size = 128) := by unfold Hid; rw [secV_size, hl]
      clear hok hd hl hzp hm
      unfold secV at HS
      go_wp2_with (first
        | (go_at_call 27; go_must (refine HS.out.mono ?_; rintro e w5 ⟨rfl, hb5⟩; have HB5 := Lib.hid (HB.out.trans (hb5.mono (Nat.le_of_lt HLT.out))); have HT5 := Lib.hid ((HB5.out.block (w.heap.size + 1) (by have := HGW.out; omega)).trans HT3.out); clear hb5))
        | (refine wpList_store_row rfl 37 (.tmp 2) (.tmp 30) rfl (w.heap.size + 1) zArr (bvs m).toArray 37 rfl rfl HT5.out (by rw [HMS.out]; exact size_sec) (by rw [HMS.out, zArr_size]) (sec_one _) ?_))
      have hld := run_loadVar_row (P := Try.prog) (w5.setRow (w.heap.size + 1) (bvs m).toArray) (w.heap.size + 1) 37 37 (bvs m).toArray (0, 0) _ (setRow_heap _ _ _ _ _ _ HT5.out) Try.underlying37 (by simp) (by rw [HMS.out]; exact size_sec)
      refine bodyPost_ret (v := .tuple #[secV m, .int .i64 0]) (results_cell2 Try.results15 rfl rfl hld) rfl ⟨by rw [HD.out.1, HD.out.2], ?_⟩
      have hbw := HB3.out.trans (HB5.out.mono (by have := HGW.out; omega))
      exact hbw.trans ⟨rfl, rfl, rfl, by rw [setRow_size]; exact Nat.le_refl _, fun k hk => setRow_other _ _ _ _ (by omega)⟩
    · have hjc : j = 0 ∨ j = 1 ∨ j = 2 ∨ j = 3 := by omega
      rcases hjc with rfl | rfl | rfl | rfl
      · have hix : ∀ W : World, (Instr.index 31 (.agg #[.int .i64 n0, .string s0, .int .i64 n1, .string s1, .int .i64 n2, .string s2, .int .i64 n3, .string s3]) (.int .i64 0)).run Try.prog W = .ok (.agg #[.int .i64 n0, .string s0]) W := fun W => run_index_ent W _ 0 (by decide)
        have hEJ : E.getD 0 (0, .empty) = (n0, s0) := by rw [HE.out]; rfl
        cases hm : mayE n0 s0 with
        | true =>
          obtain ⟨k, hk, hk200, hl26⟩ := may_bounds hm
          have hok : entOk (E.getD 0 (0, .empty)) = true := by rw [hEJ]; exact hm
          have hent : entsB E (0 + 1) = entsB E 0 ++ entB k s0 := by simp only [entsB]; rw [hEJ, hk]; rfl
          have hok' : ∀ i, i < 0 + 1 → entOk (E.getD i (0, .empty)) = true := fun i hi => by
            by_cases h : i = 0
            · rw [h]; exact hok
            · exact HOK.out i (by omega)
          have hPl : (entsB E 0).length = 32 * 0 := ents_len E 0 (by decide) HOK.out
          obtain ⟨P, hP⟩ : ∃ P, P = entsB E 0 := ⟨_, rfl⟩
          rw [← hP] at HW hent hPl
          have hwr := ent_writer P k s0 (by omega) hk200 hl26
          rw [← hent] at hwr
          have HOK' := Lib.hid hok'
          have HN1 : Hid (∀ w', WrAt w' gw (P, 0) → Calls Try.prog 25 #[.pointer (some ⟨gw, 0, none⟩), .int .i64 2, .int .u64 (k : Int)] w' (WrTo w' gw (wNum (P, 0) 2 k))) := fun w' h => wnum_any gw (P, 0) 2 k w' (by omega) h
          obtain ⟨q1, hq1⟩ : ∃ q1, q1 = wNum (P, 0) 2 k := ⟨_, rfl⟩
          rw [← hq1] at HN1 hwr
          have HN2 : Hid (∀ w', WrAt w' gw q1 → Calls Try.prog 25 #[.pointer (some ⟨gw, 0, none⟩), .int .i64 1, .int .u64 (s0.size : Int)] w' (WrTo w' gw (wNum q1 1 s0.size))) := fun w' h => wnum_any gw q1 1 s0.size w' (by omega) h
          obtain ⟨q2, hq2⟩ : ∃ q2, q2 = wNum q1 1 s0.size := ⟨_, rfl⟩
          rw [← hq2] at HN2 hwr
          have HN3 : Hid (∀ w' v, WrAt w' gw q2 → Byt w' v s0.data.toList → Calls Try.prog 26 #[.pointer (some ⟨gw, 0, none⟩), .int .i64 29, v] w' (WrTo w' gw (entsB E (0 + 1), 0))) := fun w' v h hb => by have q := wbytes_any gw q2 _ v 29 w' h hb; rw [hwr] at q; exact q
          have HMY := fun w' => Lib.hid (may_any n0 s0 w')
          rw [hm, hk] at HMY
          rw [hk] at hix ⊢
          have hcs := fun W : World => run_bytes_of_string (P := Try.prog) W 9 45 5 s0 Try.underlying9 Try.underlying45 Try.underlying5
          have HL26 := Lib.hid hl26
          have hx1 : (k : Int) % 18446744073709551616 = (k : Int) := by omega
          have hx2 : (s0.size : Int) % 18446744073709551616 = (s0.size : Int) := by omega
          clear hm hk hk200 hok hent hok' hPl hP hwr hq1 hq2 hEJ hl26
          go_upto_region 10 with (first
            | (go_at_call 24; refine (HMY _).out.mono ?_; rintro e w5 ⟨rfl, hb5⟩; have h45 : Below wr.heap.size wr w5 := ((Below.refl _ _).alloc (Nat.le_refl _) _).trans (hb5.mono (by simp)); have HW5 := Lib.hid (WrAt.below HW.out h45); have HB5 := Lib.hid (HB.out.trans (h45.mono (Nat.le_of_lt HLT.out))); have c60 : w5.cell? ⟨wr.heap.size, 0, none⟩ = some (.int .i64 (k : Int)) := (hb5.cell (p := ⟨wr.heap.size, 0, none⟩) (by simp)).trans (cell_row (heap_alloc_last wr _) 0); have c61 : w5.cell? ⟨wr.heap.size, 1, none⟩ = some (.string s0) := (hb5.cell (p := ⟨wr.heap.size, 1, none⟩) (by simp)).trans (cell_row (heap_alloc_last wr _) 1); have HL5 : Hid (wr.heap.size < w5.heap.size) := World.block_lt_of_cell? w5 _ c60; clear hb5 h45)
            | (have q := HW6; clear q; go_at_call 25; go_must (refine (HN2.out w6 HW6.out).mono ?_; rintro e w7 ⟨rfl, h71, h72⟩; have HW7 := Lib.hid h71; have HB7 := Lib.hid (HB6.out.trans (only_below h72 (Nat.le_refl gw))); have c71 : w7.cell? ⟨wr.heap.size, 1, none⟩ = some (.string s0) := (only_cell h72 HL6.out (by have := HLT.out; omega) 1).trans c6b; clear h71 h72 c6a c6b))
            | (go_at_call 25; go_must (refine (HN1.out w5 HW5.out).mono ?_; rintro e w6 ⟨rfl, h61, h62⟩; have HW6 := Lib.hid h61; have HB6 := Lib.hid (HB5.out.trans (only_below h62 (Nat.le_refl gw))); have c6a : w6.cell? ⟨wr.heap.size, 0, none⟩ = some (.int .i64 (k : Int)) := (only_cell h62 HL5.out (by have := HLT.out; omega) 0).trans c60; have c6b : w6.cell? ⟨wr.heap.size, 1, none⟩ = some (.string s0) := (only_cell h62 HL5.out (by have := HLT.out; omega) 1).trans c61; have HL6 : Hid (wr.heap.size < w6.heap.size) := World.block_lt_of_cell? w6 _ c6a; clear h61 h62 c60 c61))
            | (go_at_call 26; go_must (refine (HN3.out _ _ (WrAt.below HW7.out (conv_below' w7 _)) (byt_str' w7 _ s0 _ (by have := HL26.out; unfold maxLen; omega))).mono ?_; rintro e w8 ⟨rfl, h81, h82⟩; have HW8 := Lib.hid h81; have HB8 := Lib.hid (HB7.out.trans (((conv_below' w7 _).mono (Nat.le_of_lt (Array.getElem?_eq_some_iff.1 HW7.out.2).1)).trans (only_below h82 (Nat.le_refl gw)))); clear h81 h82)))
          go_wp2
          exact ⟨⟨0 + 1, by omega, by rfl, rfl, HW8, HB8, HOK'⟩, by simp [intOf]⟩
        | false =>
          have hne : entsOk E = false := by unfold entsOk; rw [show entOk (E.getD 0 (0, .empty)) = false by rw [hEJ]; exact hm]; simp
          have hd : dwS [(n0, s0), (n1, s1), (n2, s2), (n3, s3)] = List.replicate 128 0 ∧ dwE [(n0, s0), (n1, s1), (n2, s2), (n3, s3)] = 1 := by
            rw [← HED.out.1, ← HED.out.2]; unfold dwS dwE; rw [hne]; exact ⟨rfl, rfl⟩
          have HD := Lib.hid hd
          have HMY := fun w' => Lib.hid (may_any n0 s0 w')
          rw [hm] at HMY
          clear hm hne hd hEJ
          go_wp2_with (first
            | (go_at_call 24; go_must (refine (HMY _).out.mono ?_; rintro e w5 ⟨rfl, hb5⟩; have h45 : Below wr.heap.size wr w5 := ((Below.refl _ _).alloc (Nat.le_refl _) _).trans (hb5.mono (by simp)); have HB5 := Lib.hid (HB.out.trans (h45.mono (Nat.le_of_lt HLT.out))); have HT5 := Lib.hid ((HB5.out.block (w.heap.size + 1) (by have := HGW.out; omega)).trans HT3.out); clear hb5 h45))
            | (refine wpList_store_row rfl 37 (.tmp 2) (.tmp 14) rfl (w.heap.size + 1) zArr zArr 37 rfl rfl HT5.out (by rw [zArr_size]; exact size_sec) rfl zArr_one ?_))
          have hld := run_loadVar_row (P := Try.prog) (w5.setRow (w.heap.size + 1) zArr) (w.heap.size + 1) 37 37 zArr (0, 0) _ (setRow_heap _ _ _ _ _ _ HT5.out) Try.underlying37 (by simp) (by rw [zArr_size]; exact size_sec)
          refine bodyPost_ret (v := .tuple #[.agg zArr, .int .i64 1]) (results_cell2 Try.results15 rfl rfl hld) rfl ⟨by rw [HD.out.1, HD.out.2]; rfl, ?_⟩
          have hbw := HB3.out.trans (HB5.out.mono (by have := HGW.out; omega))
          exact hbw.trans ⟨rfl, rfl, rfl, by rw [setRow_size]; exact Nat.le_refl _, fun k hk => setRow_other _ _ _ _ (by omega)⟩
      · have hix : ∀ W : World, (Instr.index 31 (.agg #[.int .i64 n0, .string s0, .int .i64 n1, .string s1, .int .i64 n2, .string s2, .int .i64 n3, .string s3]) (.int .i64 1)).run Try.prog W = .ok (.agg #[.int .i64 n1, .string s1]) W := fun W => run_index_ent W _ 1 (by decide)
        have hEJ : E.getD 1 (0, .empty) = (n1, s1) := by rw [HE.out]; rfl
        cases hm : mayE n1 s1 with
        | true =>
          obtain ⟨k, hk, hk200, hl26⟩ := may_bounds hm
          have hok : entOk (E.getD 1 (0, .empty)) = true := by rw [hEJ]; exact hm
          have hent : entsB E (1 + 1) = entsB E 1 ++ entB k s1 := by simp only [entsB]; rw [hEJ, hk]; rfl
          have hok' : ∀ i, i < 1 + 1 → entOk (E.getD i (0, .empty)) = true := fun i hi => by
            by_cases h : i = 1
            · rw [h]; exact hok
            · exact HOK.out i (by omega)
          have hPl : (entsB E 1).length = 32 * 1 := ents_len E 1 (by decide) HOK.out
          obtain ⟨P, hP⟩ : ∃ P, P = entsB E 1 := ⟨_, rfl⟩
          rw [← hP] at HW hent hPl
          have hwr := ent_writer P k s1 (by omega) hk200 hl26
          rw [← hent] at hwr
          have HOK' := Lib.hid hok'
          have HN1 : Hid (∀ w', WrAt w' gw (P, 0) → Calls Try.prog 25 #[.pointer (some ⟨gw, 0, none⟩), .int .i64 2, .int .u64 (k : Int)] w' (WrTo w' gw (wNum (P, 0) 2 k))) := fun w' h => wnum_any gw (P, 0) 2 k w' (by omega) h
          obtain ⟨q1, hq1⟩ : ∃ q1, q1 = wNum (P, 0) 2 k := ⟨_, rfl⟩
          rw [← hq1] at HN1 hwr
          have HN2 : Hid (∀ w', WrAt w' gw q1 → Calls Try.prog 25 #[.pointer (some ⟨gw, 0, none⟩), .int .i64 1, .int .u64 (s1.size : Int)] w' (WrTo w' gw (wNum q1 1 s1.size))) := fun w' h => wnum_any gw q1 1 s1.size w' (by omega) h
          obtain ⟨q2, hq2⟩ : ∃ q2, q2 = wNum q1 1 s1.size := ⟨_, rfl⟩
          rw [← hq2] at HN2 hwr
          have HN3 : Hid (∀ w' v, WrAt w' gw q2 → Byt w' v s1.data.toList → Calls Try.prog 26 #[.pointer (some ⟨gw, 0, none⟩), .int .i64 29, v] w' (WrTo w' gw (entsB E (1 + 1), 0))) := fun w' v h hb => by have q := wbytes_any gw q2 _ v 29 w' h hb; rw [hwr] at q; exact q
          have HMY := fun w' => Lib.hid (may_any n1 s1 w')
          rw [hm, hk] at HMY
          rw [hk] at hix ⊢
          have hcs := fun W : World => run_bytes_of_string (P := Try.prog) W 9 45 5 s1 Try.underlying9 Try.underlying45 Try.underlying5
          have HL26 := Lib.hid hl26
          have hx1 : (k : Int) % 18446744073709551616 = (k : Int) := by omega
          have hx2 : (s1.size : Int) % 18446744073709551616 = (s1.size : Int) := by omega
          clear hm hk hk200 hok hent hok' hPl hP hwr hq1 hq2 hEJ hl26
          go_upto_region 10 with (first
            | (go_at_call 24; refine (HMY _).out.mono ?_; rintro e w5 ⟨rfl, hb5⟩; have h45 : Below wr.heap.size wr w5 := ((Below.refl _ _).alloc (Nat.le_refl _) _).trans (hb5.mono (by simp)); have HW5 := Lib.hid (WrAt.below HW.out h45); have HB5 := Lib.hid (HB.out.trans (h45.mono (Nat.le_of_lt HLT.out))); have c60 : w5.cell? ⟨wr.heap.size, 0, none⟩ = some (.int .i64 (k : Int)) := (hb5.cell (p := ⟨wr.heap.size, 0, none⟩) (by simp)).trans (cell_row (heap_alloc_last wr _) 0); have c61 : w5.cell? ⟨wr.heap.size, 1, none⟩ = some (.string s1) := (hb5.cell (p := ⟨wr.heap.size, 1, none⟩) (by simp)).trans (cell_row (heap_alloc_last wr _) 1); have HL5 : Hid (wr.heap.size < w5.heap.size) := World.block_lt_of_cell? w5 _ c60; clear hb5 h45)
            | (have q := HW6; clear q; go_at_call 25; go_must (refine (HN2.out w6 HW6.out).mono ?_; rintro e w7 ⟨rfl, h71, h72⟩; have HW7 := Lib.hid h71; have HB7 := Lib.hid (HB6.out.trans (only_below h72 (Nat.le_refl gw))); have c71 : w7.cell? ⟨wr.heap.size, 1, none⟩ = some (.string s1) := (only_cell h72 HL6.out (by have := HLT.out; omega) 1).trans c6b; clear h71 h72 c6a c6b))
            | (go_at_call 25; go_must (refine (HN1.out w5 HW5.out).mono ?_; rintro e w6 ⟨rfl, h61, h62⟩; have HW6 := Lib.hid h61; have HB6 := Lib.hid (HB5.out.trans (only_below h62 (Nat.le_refl gw))); have c6a : w6.cell? ⟨wr.heap.size, 0, none⟩ = some (.int .i64 (k : Int)) := (only_cell h62 HL5.out (by have := HLT.out; omega) 0).trans c60; have c6b : w6.cell? ⟨wr.heap.size, 1, none⟩ = some (.string s1) := (only_cell h62 HL5.out (by have := HLT.out; omega) 1).trans c61; have HL6 : Hid (wr.heap.size < w6.heap.size) := World.block_lt_of_cell? w6 _ c6a; clear h61 h62 c60 c61))
            | (go_at_call 26; go_must (refine (HN3.out _ _ (WrAt.below HW7.out (conv_below' w7 _)) (byt_str' w7 _ s1 _ (by have := HL26.out; unfold maxLen; omega))).mono ?_; rintro e w8 ⟨rfl, h81, h82⟩; have HW8 := Lib.hid h81; have HB8 := Lib.hid (HB7.out.trans (((conv_below' w7 _).mono (Nat.le_of_lt (Array.getElem?_eq_some_iff.1 HW7.out.2).1)).trans (only_below h82 (Nat.le_refl gw)))); clear h81 h82)))
          go_wp2
          exact ⟨⟨1 + 1, by omega, by rfl, rfl, HW8, HB8, HOK'⟩, by simp [intOf]⟩
        | false =>
          have hne : entsOk E = false := by unfold entsOk; rw [show entOk (E.getD 1 (0, .empty)) = false by rw [hEJ]; exact hm]; simp
          have hd : dwS [(n0, s0), (n1, s1), (n2, s2), (n3, s3)] = List.replicate 128 0 ∧ dwE [(n0, s0), (n1, s1), (n2, s2), (n3, s3)] = 1 := by
            rw [← HED.out.1, ← HED.out.2]; unfold dwS dwE; rw [hne]; exact ⟨rfl, rfl⟩
          have HD := Lib.hid hd
          have HMY := fun w' => Lib.hid (may_any n1 s1 w')
          rw [hm] at HMY
          clear hm hne hd hEJ
          go_wp2_with (first
            | (go_at_call 24; go_must (refine (HMY _).out.mono ?_; rintro e w5 ⟨rfl, hb5⟩; have h45 : Below wr.heap.size wr w5 := ((Below.refl _ _).alloc (Nat.le_refl _) _).trans (hb5.mono (by simp)); have HB5 := Lib.hid (HB.out.trans (h45.mono (Nat.le_of_lt HLT.out))); have HT5 := Lib.hid ((HB5.out.block (w.heap.size + 1) (by have := HGW.out; omega)).trans HT3.out); clear hb5 h45))
            | (refine wpList_store_row rfl 37 (.tmp 2) (.tmp 14) rfl (w.heap.size + 1) zArr zArr 37 rfl rfl HT5.out (by rw [zArr_size]; exact size_sec) rfl zArr_one ?_))
          have hld := run_loadVar_row (P := Try.prog) (w5.setRow (w.heap.size + 1) zArr) (w.heap.size + 1) 37 37 zArr (0, 0) _ (setRow_heap _ _ _ _ _ _ HT5.out) Try.underlying37 (by simp) (by rw [zArr_size]; exact size_sec)
          refine bodyPost_ret (v := .tuple #[.agg zArr, .int .i64 1]) (results_cell2 Try.results15 rfl rfl hld) rfl ⟨by rw [HD.out.1, HD.out.2]; rfl, ?_⟩
          have hbw := HB3.out.trans (HB5.out.mono (by have := HGW.out; omega))
          exact hbw.trans ⟨rfl, rfl, rfl, by rw [setRow_size]; exact Nat.le_refl _, fun k hk => setRow_other _ _ _ _ (by omega)⟩
      · have hix : ∀ W : World, (Instr.index 31 (.agg #[.int .i64 n0, .string s0, .int .i64 n1, .string s1, .int .i64 n2, .string s2, .int .i64 n3, .string s3]) (.int .i64 2)).run Try.prog W = .ok (.agg #[.int .i64 n2, .string s2]) W := fun W => run_index_ent W _ 2 (by decide)
        have hEJ : E.getD 2 (0, .empty) = (n2, s2) := by rw [HE.out]; rfl
        cases hm : mayE n2 s2 with
        | true =>
          obtain ⟨k, hk, hk200, hl26⟩ := may_bounds hm
          have hok : entOk (E.getD 2 (0, .empty)) = true := by rw [hEJ]; exact hm
          have hent : entsB E (2 + 1) = entsB E 2 ++ entB k s2 := by simp only [entsB]; rw [hEJ, hk]; rfl
          have hok' : ∀ i, i < 2 + 1 → entOk (E.getD i (0, .empty)) = true := fun i hi => by
            by_cases h : i = 2
            · rw [h]; exact hok
            · exact HOK.out i (by omega)
          have hPl : (entsB E 2).length = 32 * 2 := ents_len E 2 (by decide) HOK.out
          obtain ⟨P, hP⟩ : ∃ P, P = entsB E 2 := ⟨_, rfl⟩
          rw [← hP] at HW hent hPl
          have hwr := ent_writer P k s2 (by omega) hk200 hl26
          rw [← hent] at hwr
          have HOK' := Lib.hid hok'
          have HN1 : Hid (∀ w', WrAt w' gw (P, 0) → Calls Try.prog 25 #[.pointer (some ⟨gw, 0, none⟩), .int .i64 2, .int .u64 (k : Int)] w' (WrTo w' gw (wNum (P, 0) 2 k))) := fun w' h => wnum_any gw (P, 0) 2 k w' (by omega) h
          obtain ⟨q1, hq1⟩ : ∃ q1, q1 = wNum (P, 0) 2 k := ⟨_, rfl⟩
          rw [← hq1] at HN1 hwr
          have HN2 : Hid (∀ w', WrAt w' gw q1 → Calls Try.prog 25 #[.pointer (some ⟨gw, 0, none⟩), .int .i64 1, .int .u64 (s2.size : Int)] w' (WrTo w' gw (wNum q1 1 s2.size))) := fun w' h => wnum_any gw q1 1 s2.size w' (by omega) h
          obtain ⟨q2, hq2⟩ : ∃ q2, q2 = wNum q1 1 s2.size := ⟨_, rfl⟩
          rw [← hq2] at HN2 hwr
          have HN3 : Hid (∀ w' v, WrAt w' gw q2 → Byt w' v s2.data.toList → Calls Try.prog 26 #[.pointer (some ⟨gw, 0, none⟩), .int .i64 29, v] w' (WrTo w' gw (entsB E (2 + 1), 0))) := fun w' v h hb => by have q := wbytes_any gw q2 _ v 29 w' h hb; rw [hwr] at q; exact q
          have HMY := fun w' => Lib.hid (may_any n2 s2 w')
          rw [hm, hk] at HMY
          rw [hk] at hix ⊢
          have hcs := fun W : World => run_bytes_of_string (P := Try.prog) W 9 45 5 s2 Try.underlying9 Try.underlying45 Try.underlying5
          have HL26 := Lib.hid hl26
          have hx1 : (k : Int) % 18446744073709551616 = (k : Int) := by omega
          have hx2 : (s2.size : Int) % 18446744073709551616 = (s2.size : Int) := by omega
          clear hm hk hk200 hok hent hok' hPl hP hwr hq1 hq2 hEJ hl26
          go_upto_region 10 with (first
            | (go_at_call 24; refine (HMY _).out.mono ?_; rintro e w5 ⟨rfl, hb5⟩; have h45 : Below wr.heap.size wr w5 := ((Below.refl _ _).alloc (Nat.le_refl _) _).trans (hb5.mono (by simp)); have HW5 := Lib.hid (WrAt.below HW.out h45); have HB5 := Lib.hid (HB.out.trans (h45.mono (Nat.le_of_lt HLT.out))); have c60 : w5.cell? ⟨wr.heap.size, 0, none⟩ = some (.int .i64 (k : Int)) := (hb5.cell (p := ⟨wr.heap.size, 0, none⟩) (by simp)).trans (cell_row (heap_alloc_last wr _) 0); have c61 : w5.cell? ⟨wr.heap.size, 1, none⟩ = some (.string s2) := (hb5.cell (p := ⟨wr.heap.size, 1, none⟩) (by simp)).trans (cell_row (heap_alloc_last wr _) 1); have HL5 : Hid (wr.heap.size < w5.heap.size) := World.block_lt_of_cell? w5 _ c60; clear hb5 h45)
            | (have q := HW6; clear q; go_at_call 25; go_must (refine (HN2.out w6 HW6.out).mono ?_; rintro e w7 ⟨rfl, h71, h72⟩; have HW7 := Lib.hid h71; have HB7 := Lib.hid (HB6.out.trans (only_below h72 (Nat.le_refl gw))); have c71 : w7.cell? ⟨wr.heap.size, 1, none⟩ = some (.string s2) := (only_cell h72 HL6.out (by have := HLT.out; omega) 1).trans c6b; clear h71 h72 c6a c6b))
            | (go_at_call 25; go_must (refine (HN1.out w5 HW5.out).mono ?_; rintro e w6 ⟨rfl, h61, h62⟩; have HW6 := Lib.hid h61; have HB6 := Lib.hid (HB5.out.trans (only_below h62 (Nat.le_refl gw))); have c6a : w6.cell? ⟨wr.heap.size, 0, none⟩ = some (.int .i64 (k : Int)) := (only_cell h62 HL5.out (by have := HLT.out; omega) 0).trans c60; have c6b : w6.cell? ⟨wr.heap.size, 1, none⟩ = some (.string s2) := (only_cell h62 HL5.out (by have := HLT.out; omega) 1).trans c61; have HL6 : Hid (wr.heap.size < w6.heap.size) := World.block_lt_of_cell? w6 _ c6a; clear h61 h62 c60 c61))
            | (go_at_call 26; go_must (refine (HN3.out _ _ (WrAt.below HW7.out (conv_below' w7 _)) (byt_str' w7 _ s2 _ (by have := HL26.out; unfold maxLen; omega))).mono ?_; rintro e w8 ⟨rfl, h81, h82⟩; have HW8 := Lib.hid h81; have HB8 := Lib.hid (HB7.out.trans (((conv_below' w7 _).mono (Nat.le_of_lt (Array.getElem?_eq_some_iff.1 HW7.out.2).1)).trans (only_below h82 (Nat.le_refl gw)))); clear h81 h82)))
          go_wp2
          exact ⟨⟨2 + 1, by omega, by rfl, rfl, HW8, HB8, HOK'⟩, by simp [intOf]⟩
        | false =>
          have hne : entsOk E = false := by unfold entsOk; rw [show entOk (E.getD 2 (0, .empty)) = false by rw [hEJ]; exact hm]; simp
          have hd : dwS [(n0, s0), (n1, s1), (n2, s2), (n3, s3)] = List.replicate 128 0 ∧ dwE [(n0, s0), (n1, s1), (n2, s2), (n3, s3)] = 1 := by
            rw [← HED.out.1, ← HED.out.2]; unfold dwS dwE; rw [hne]; exact ⟨rfl, rfl⟩
          have HD := Lib.hid hd
          have HMY := fun w' => Lib.hid (may_any n2 s2 w')
          rw [hm] at HMY
          clear hm hne hd hEJ
          go_wp2_with (first
            | (go_at_call 24; go_must (refine (HMY _).out.mono ?_; rintro e w5 ⟨rfl, hb5⟩; have h45 : Below wr.heap.size wr w5 := ((Below.refl _ _).alloc (Nat.le_refl _) _).trans (hb5.mono (by simp)); have HB5 := Lib.hid (HB.out.trans (h45.mono (Nat.le_of_lt HLT.out))); have HT5 := Lib.hid ((HB5.out.block (w.heap.size + 1) (by have := HGW.out; omega)).trans HT3.out); clear hb5 h45))
            | (refine wpList_store_row rfl 37 (.tmp 2) (.tmp 14) rfl (w.heap.size + 1) zArr zArr 37 rfl rfl HT5.out (by rw [zArr_size]; exact size_sec) rfl zArr_one ?_))
          have hld := run_loadVar_row (P := Try.prog) (w5.setRow (w.heap.size + 1) zArr) (w.heap.size + 1) 37 37 zArr (0, 0) _ (setRow_heap _ _ _ _ _ _ HT5.out) Try.underlying37 (by simp) (by rw [zArr_size]; exact size_sec)
          refine bodyPost_ret (v := .tuple #[.agg zArr, .int .i64 1]) (results_cell2 Try.results15 rfl rfl hld) rfl ⟨by rw [HD.out.1, HD.out.2]; rfl, ?_⟩
          have hbw := HB3.out.trans (HB5.out.mono (by have := HGW.out; omega))
          exact hbw.trans ⟨rfl, rfl, rfl, by rw [setRow_size]; exact Nat.le_refl _, fun k hk => setRow_other _ _ _ _ (by omega)⟩
      · have hix : ∀ W : World, (Instr.index 31 (.agg #[.int .i64 n0, .string s0, .int .i64 n1, .string s1, .int .i64 n2, .string s2, .int .i64 n3, .string s3]) (.int .i64 3)).run Try.prog W = .ok (.agg #[.int .i64 n3, .string s3]) W := fun W => run_index_ent W _ 3 (by decide)
        have hEJ : E.getD 3 (0, .empty) = (n3, s3) := by rw [HE.out]; rfl
        cases hm : mayE n3 s3 with
        | true =>
          obtain ⟨k, hk, hk200, hl26⟩ := may_bounds hm
          have hok : entOk (E.getD 3 (0, .empty)) = true := by rw [hEJ]; exact hm
          have hent : entsB E (3 + 1) = entsB E 3 ++ entB k s3 := by simp only [entsB]; rw [hEJ, hk]; rfl
          have hok' : ∀ i, i < 3 + 1 → entOk (E.getD i (0, .empty)) = true := fun i hi => by
            by_cases h : i = 3
            · rw [h]; exact hok
            · exact HOK.out i (by omega)
          have hPl : (entsB E 3).length = 32 * 3 := ents_len E 3 (by decide) HOK.out
          obtain ⟨P, hP⟩ : ∃ P, P = entsB E 3 := ⟨_, rfl⟩
          rw [← hP] at HW hent hPl
          have hwr := ent_writer P k s3 (by omega) hk200 hl26
          rw [← hent] at hwr
          have HOK' := Lib.hid hok'
          have HN1 : Hid (∀ w', WrAt w' gw (P, 0) → Calls Try.prog 25 #[.pointer (some ⟨gw, 0, none⟩), .int .i64 2, .int .u64 (k : Int)] w' (WrTo w' gw (wNum (P, 0) 2 k))) := fun w' h => wnum_any gw (P, 0) 2 k w' (by omega) h
          obtain ⟨q1, hq1⟩ : ∃ q1, q1 = wNum (P, 0) 2 k := ⟨_, rfl⟩
          rw [← hq1] at HN1 hwr
          have HN2 : Hid (∀ w', WrAt w' gw q1 → Calls Try.prog 25 #[.pointer (some ⟨gw, 0, none⟩), .int .i64 1, .int .u64 (s3.size : Int)] w' (WrTo w' gw (wNum q1 1 s3.size))) := fun w' h => wnum_any gw q1 1 s3.size w' (by omega) h
          obtain ⟨q2, hq2⟩ : ∃ q2, q2 = wNum q1 1 s3.size := ⟨_, rfl⟩
          rw [← hq2] at HN2 hwr
          have HN3 : Hid (∀ w' v, WrAt w' gw q2 → Byt w' v s3.data.toList → Calls Try.prog 26 #[.pointer (some ⟨gw, 0, none⟩), .int .i64 29, v] w' (WrTo w' gw (entsB E (3 + 1), 0))) := fun w' v h hb => by have q := wbytes_any gw q2 _ v 29 w' h hb; rw [hwr] at q; exact q
          have HMY := fun w' => Lib.hid (may_any n3 s3 w')
          rw [hm, hk] at HMY
          rw [hk] at hix ⊢
          have hcs := fun W : World => run_bytes_of_string (P := Try.prog) W 9 45 5 s3 Try.underlying9 Try.underlying45 Try.underlying5
          have HL26 := Lib.hid hl26
          have hx1 : (k : Int) % 18446744073709551616 = (k : Int) := by omega
          have hx2 : (s3.size : Int) % 18446744073709551616 = (s3.size : Int) := by omega
          clear hm hk hk200 hok hent hok' hPl hP hwr hq1 hq2 hEJ hl26
          go_upto_region 10 with (first
            | (go_at_call 24; refine (HMY _).out.mono ?_; rintro e w5 ⟨rfl, hb5⟩; have h45 : Below wr.heap.size wr w5 := ((Below.refl _ _).alloc (Nat.le_refl _) _).trans (hb5.mono (by simp)); have HW5 := Lib.hid (WrAt.below HW.out h45); have HB5 := Lib.hid (HB.out.trans (h45.mono (Nat.le_of_lt HLT.out))); have c60 : w5.cell? ⟨wr.heap.size, 0, none⟩ = some (.int .i64 (k : Int)) := (hb5.cell (p := ⟨wr.heap.size, 0, none⟩) (by simp)).trans (cell_row (heap_alloc_last wr _) 0); have c61 : w5.cell? ⟨wr.heap.size, 1, none⟩ = some (.string s3) := (hb5.cell (p := ⟨wr.heap.size, 1, none⟩) (by simp)).trans (cell_row (heap_alloc_last wr _) 1); have HL5 : Hid (wr.heap.size < w5.heap.size) := World.block_lt_of_cell? w5 _ c60; clear hb5 h45)
            | (have q := HW6; clear q; go_at_call 25; go_must (refine (HN2.out w6 HW6.out).mono ?_; rintro e w7 ⟨rfl, h71, h72⟩; have HW7 := Lib.hid h71; have HB7 := Lib.hid (HB6.out.trans (only_below h72 (Nat.le_refl gw))); have c71 : w7.cell? ⟨wr.heap.size, 1, none⟩ = some (.string s3) := (only_cell h72 HL6.out (by have := HLT.out; omega) 1).trans c6b; clear h71 h72 c6a c6b))
            | (go_at_call 25; go_must (refine (HN1.out w5 HW5.out).mono ?_; rintro e w6 ⟨rfl, h61, h62⟩; have HW6 := Lib.hid h61; have HB6 := Lib.hid (HB5.out.trans (only_below h62 (Nat.le_refl gw))); have c6a : w6.cell? ⟨wr.heap.size, 0, none⟩ = some (.int .i64 (k : Int)) := (only_cell h62 HL5.out (by have := HLT.out; omega) 0).trans c60; have c6b : w6.cell? ⟨wr.heap.size, 1, none⟩ = some (.string s3) := (only_cell h62 HL5.out (by have := HLT.out; omega) 1).trans c61; have HL6 : Hid (wr.heap.size < w6.heap.size) := World.block_lt_of_cell? w6 _ c6a; clear h61 h62 c60 c61))
            | (go_at_call 26; go_must (refine (HN3.out _ _ (WrAt.below HW7.out (conv_below' w7 _)) (byt_str' w7 _ s3 _ (by have := HL26.out; unfold maxLen; omega))).mono ?_; rintro e w8 ⟨rfl, h81, h82⟩; have HW8 := Lib.hid h81; have HB8 := Lib.hid (HB7.out.trans (((conv_below' w7 _).mono (Nat.le_of_lt (Array.getElem?_eq_some_iff.1 HW7.out.2).1)).trans (only_below h82 (Nat.le_refl gw)))); clear h81 h82)))
          go_wp2
          exact ⟨⟨3 + 1, by omega, by rfl, rfl, HW8, HB8, HOK'⟩, by simp [intOf]⟩
        | false =>
          have hne : entsOk E = false := by unfold entsOk; rw [show entOk (E.getD 3 (0, .empty)) = false by rw [hEJ]; exact hm]; simp
          have hd : dwS [(n0, s0), (n1, s1), (n2, s2), (n3, s3)] = List.replicate 128 0 ∧ dwE [(n0, s0), (n1, s1), (n2, s2), (n3, s3)] = 1 := by
            rw [← HED.out.1, ← HED.out.2]; unfold dwS dwE; rw [hne]; exact ⟨rfl, rfl⟩
          have HD := Lib.hid hd
          have HMY := fun w' => Lib.hid (may_any n3 s3 w')
          rw [hm] at HMY
          clear hm hne hd hEJ
          go_wp2_with (first
            | (go_at_call 24; go_must (refine (HMY _).out.mono ?_; rintro e w5 ⟨rfl, hb5⟩; have h45 : Below wr.heap.size wr w5 := ((Below.refl _ _).alloc (Nat.le_refl _) _).trans (hb5.mono (by simp)); have HB5 := Lib.hid (HB.out.trans (h45.mono (Nat.le_of_lt HLT.out))); have HT5 := Lib.hid ((HB5.out.block (w.heap.size + 1) (by have := HGW.out; omega)).trans HT3.out); clear hb5 h45))
            | (refine wpList_store_row rfl 37 (.tmp 2) (.tmp 14) rfl (w.heap.size + 1) zArr zArr 37 rfl rfl HT5.out (by rw [zArr_size]; exact size_sec) rfl zArr_one ?_))
          have hld := run_loadVar_row (P := Try.prog) (w5.setRow (w.heap.size + 1) zArr) (w.heap.size + 1) 37 37 zArr (0, 0) _ (setRow_heap _ _ _ _ _ _ HT5.out) Try.underlying37 (by simp) (by rw [zArr_size]; exact size_sec)
          refine bodyPost_ret (v := .tuple #[.agg zArr, .int .i64 1]) (results_cell2 Try.results15 rfl rfl hld) rfl ⟨by rw [HD.out.1, HD.out.2]; rfl, ?_⟩
          have hbw := HB3.out.trans (HB5.out.mono (by have := HGW.out; omega))
          exact hbw.trans ⟨rfl, rfl, rfl, by rw [setRow_size]; exact Nat.le_refl _, fun k hk => setRow_other _ _ _ _ (by omega)⟩
end Go.Proofs.Ytcgfhpgjaibmhaa
