/-
  Disk: slices.Clone and slices.Equal at sectors and at writes.
-/
import Derived.Test.YtiehfaiadhhndaaDsPa
import Derived.Test.YtiehfaiadhhndaaReg
import Derived.Lib.SliceRun
import Derived.Laws.StructEq
namespace Go.Proofs.Ytiehfaiadhhndaa
open Go.RowKit
set_option linter.unusedVariables false
set_option linter.unusedSimpArgs false
set_option linter.unnecessarySimpa false
def CloneTo {α : Type} (f : α → List Value) (T k : Nat) (L : List α) (w : World) (e : Ending) (w' : World) : Prop := ∃ v, e = .returned v ∧ w'.ownsRow w.heap.size T k v L.length (rowsOf f L) ∧ Below w.heap.size w w'
set_option maxHeartbeats 4000000 in
theorem clone_sec {w : World} {F : Nat → Prop} {v : Value} {L : List Sc} (h : RowsAt w F scF 128 v L) (hL : L.length ≤ 65536) : Calls Try.prog 35 #[v] w (CloneTo scF 31 128 L w) := by
  have HR := Lib.hid h
  obtain ⟨A, c, rfl, h2, h3, h0, h4, h5⟩ := h
  cases A with
  | none =>
    have hc : c = 0 := h0 rfl
    subst hc
    have hl : L.length = 0 := by omega
    have hn : L = [] := List.eq_nil_of_length_eq_zero hl
    subst hn
    clear hl h2 h3 h0 h4 h5 HR
    have hnil := fun (W : World) => Lib.run_eql_slice_nil (P := Try.prog) W 54 31 none 0 0 0 0 Try.underlying54
    rw [List.length_nil]
    go_enter Try.func35, Try.ntmps35
    go_wp2
    go_ret
    exact ⟨_, rfl, World.ownsRow_nil _ _ _ _, Below.refl _ _⟩
  | some a =>
    clear h2 h3 h0 h4 h5
    have hnil := fun (W : World) => Lib.run_eql_slice_nil (P := Try.prog) W 54 31 (some a) L.length c 0 0 Try.underlying54
    go_enter Try.func35, Try.ntmps35
    go_wp2_with (first
      | (refine wpList_buildSlice0 rfl 54 rfl 31 (.agg zArr) 128 128 Try.underlying54 info_sec3 (by decide) (by decide) ?_; intro v2 w2 ho2 hb2; obtain ⟨s2, cc2, rfl⟩ := own_slice1 ho2; have HO2 := Lib.hid ho2; have HB2 := Lib.hid hb2; have HRD := Lib.hid (rows_rd scF_len (by decide) (HR.out.below scF_len hb2)); have hsz2 := hb2.size; clear ho2 hb2)
      | (at_builtin; refine wpList_append_rd _ rfl _ _ 54 rfl w.heap.size 31 (.agg zArr) 128 128 Try.underlying54 info_sec3 zArr_cells (by decide) _ _ _ rfl HO2.out _ L.length (rowsOf scF L) rfl HRD.out (rowsOf_one scF_one _) ?c2 (by decide) ?c3 ?_; (case c2 => omega); (case c3 => omega); intro v3 w3 hown3 hbel3 hg3; rw [Nat.zero_add, List.nil_append] at hown3; have HO3 := Lib.hid hown3; have HB3 := Lib.hid (HB2.out.trans hbel3); clear hown3 hbel3 hg3))
    go_ret
    exact ⟨_, rfl, HO3.out, HB3.out⟩
set_option maxHeartbeats 4000000 in
theorem clone_wr {w : World} {F : Nat → Prop} {v : Value} {L : List Wr} (h : RowsAt w F wrF 129 v L) (hL : L.length ≤ 65536) : Calls Try.prog 36 #[v] w (CloneTo wrF 71 129 L w) := by
  have HR := Lib.hid h
  obtain ⟨A, c, rfl, h2, h3, h0, h4, h5⟩ := h
  cases A with
  | none =>
    have hc : c = 0 := h0 rfl
    subst hc
    have hl : L.length = 0 := by omega
    have hn : L = [] := List.eq_nil_of_length_eq_zero hl
    subst hn
    clear hl h2 h3 h0 h4 h5 HR
    have hnil := fun (W : World) => Lib.run_eql_slice_nil (P := Try.prog) W 67 71 none 0 0 0 0 Try.underlying67
    rw [List.length_nil]
    go_enter Try.func36, Try.ntmps36
    go_wp2
    go_ret
    exact ⟨_, rfl, World.ownsRow_nil _ _ _ _, Below.refl _ _⟩
  | some a =>
    clear h2 h3 h0 h4 h5
    have hnil := fun (W : World) => Lib.run_eql_slice_nil (P := Try.prog) W 67 71 (some a) L.length c 0 0 Try.underlying67
    go_enter Try.func36, Try.ntmps36
    go_wp2_with (first
      | (refine wpList_buildSlice0 rfl 67 rfl 71 (.agg (wrF wr0).toArray) 129 136 Try.underlying67 info_wr3 (by decide) (by decide) ?_; intro v2 w2 ho2 hb2; obtain ⟨s2, cc2, rfl⟩ := own_slice1 ho2; have HO2 := Lib.hid ho2; have HB2 := Lib.hid hb2; have HRD := Lib.hid (rows_rd wrF_len (by decide) (HR.out.below wrF_len hb2)); have hsz2 := hb2.size; clear ho2 hb2)
      | (at_builtin; refine wpList_append_rd _ rfl _ _ 67 rfl w.heap.size 71 (.agg (wrF wr0).toArray) 129 136 Try.underlying67 info_wr3 (by simp [Value.cells, wrF_len]) (by decide) _ _ _ rfl HO2.out _ L.length (rowsOf wrF L) rfl HRD.out (rowsOf_one wrF_one _) ?c2 (by decide) ?c3 ?_; (case c2 => omega); (case c3 => omega); intro v3 w3 hown3 hbel3 hg3; rw [Nat.zero_add, List.nil_append] at hown3; have HO3 := Lib.hid hown3; have HB3 := Lib.hid (HB2.out.trans hbel3); clear hown3 hbel3 hg3))
    go_ret
    exact ⟨_, rfl, HO3.out, HB3.out⟩
theorem equal_sc9 (w : World) (s t : Sc) : (Op.equalIn 9999 31 (.agg (scF s).toArray) (.agg (scF t).toArray)).run Try.prog w = .ok (decide (s.1 = t.1)) w := by
  have h : ∃ i, Try.prog.info? 5 = some i := by
    cases hi : Try.prog.info? 5 with
    | none => have := infoU8_3; rw [hi] at this; cases this
    | some i => exact ⟨i, rfl⟩
  obtain ⟨i, hi⟩ := h
  show (Op.equalIn (9998 + 1) _ _ _).run _ _ = _
  rw [run_equalIn_array w 9998 _ _ Try.underlying31 hi, show Try.prog.cellsOf 5 = 1 by kernel_rfl]
  unfold scF
  rw [eqItems_bytes 9997 (by kernel_rfl) Try.underlying5 w s.1 t.1 _ (fun i hi => by have := s.2; have := t.2; simp at hi; omega), all_eq_iff s.1 t.1 128 s.2 t.2]
theorem equal_wr (w : World) (s t : Wr) : (Op.equalIn 10000 71 (.agg (wrF s).toArray) (.agg (wrF t).toArray)).run Try.prog w = .ok (decide (s.at_ = t.at_ ∧ s.s.1 = t.s.1)) w := by
  have hu := Try.underlying71
  have hf : Try.prog.underlying 71 = some (.struct (Try.prog.fieldsOf 71)) := by unfold Program.fieldsOf; rw [hu]
  rw [run_equalIn_struct w 9999 _ _ _ hf (by kernel_rfl)]
  unfold Program.fieldsOf
  rw [hu]
  simp only [Op.eqFields]
  go_simp
  have h1 : ∀ q : Wr, (wrF q)[0]? = some (.int .i64 q.at_) := fun _ => rfl
  have h2 : ∀ q : Wr, List.take 128 (wrF q).tail = scF q.s := fun q => by unfold wrF; rw [List.tail_cons, List.take_of_length_le (by rw [scF_len]; exact Nat.le_refl _)]
  rw [h1, h1, h2, h2]
  simp only [equal_sc9]
  go_simp
  by_cases ha : s.at_ = t.at_ <;> by_cases hs : s.s.1 = t.s.1 <;> simp [ha, hs]
instance : DecidableEq Wr := fun a b => decidable_of_iff (a.at_ = b.at_ ∧ a.s = b.s) ⟨fun h => by cases a; cases b; simp at h; simp [h], fun h => by rw [h]; exact ⟨rfl, rfl⟩⟩
def EqTo {α : Type} [DecidableEq α] (L M : List α) (w : World) (e : Ending) (w' : World) : Prop := e = .returned (.bool (decide (L = M))) ∧ ∃ n, w' = w.drewN n
theorem take_step {α : Type} {L M : List α} {j : Nat} {x y : α} (h : L.take j = M.take j) (hx : L[j]? = some x) (hy : M[j]? = some y) : x = y ↔ L.take (j + 1) = M.take (j + 1) := by
  have h1 : j < L.length := (List.getElem?_eq_some_iff.1 hx).1
  have h2 : j < M.length := (List.getElem?_eq_some_iff.1 hy).1
  have e1 : L[j] = x := (List.getElem?_eq_some_iff.1 hx).2
  have e2 : M[j] = y := (List.getElem?_eq_some_iff.1 hy).2
  rw [List.take_succ_eq_append_getElem h1, List.take_succ_eq_append_getElem h2, h, e1, e2]
  simp
theorem equal_scD (w : World) (s t : Sc) : (Op.equalIn 10000 31 (.agg (scF s).toArray) (.agg (scF t).toArray)).run Try.prog w = .ok (decide (s = t)) w := by
  rw [equal_sc]; congr 1; exact decide_eq_decide.2 ⟨fun h => Subtype.ext h, fun h => by rw [h]⟩
theorem equal_wrD (w : World) (s t : Wr) : (Op.equalIn 10000 71 (.agg (wrF s).toArray) (.agg (wrF t).toArray)).run Try.prog w = .ok (decide (s = t)) w := by
  rw [equal_wr]; congr 1
  exact decide_eq_decide.2 ⟨fun h => by obtain ⟨a, b⟩ := s; obtain ⟨c, d⟩ := t; obtain ⟨h1, h2⟩ := h; dsimp only at h1 h2; rw [h1, Subtype.ext h2], fun h => by rw [h]; exact ⟨rfl, rfl⟩⟩
set_option maxRecDepth 100000 in
set_option maxHeartbeats 4000000 in
theorem equal_secs {w : World} {F G : Nat → Prop} {v v' : Value} {L M : List Sc} (h : RowsAt w F scF 128 v L) (h' : RowsAt w G scF 128 v' M) (hL : L.length ≤ 65536) : Calls Try.prog 37 #[v, v'] w (EqTo L M w) := by
  have HR := Lib.hid h
  have HR' := Lib.hid h'
  obtain ⟨A, c, rfl, _⟩ := h
  obtain ⟨A', c', rfl, _⟩ := h'
  unfold EqTo
  by_cases hl : L.length = M.length
  · have HL := Lib.hid hl
    rw [← hl]
    clear hl
    have t1 : ((L.length : Int) != (L.length : Int)) = false := by simp
    go_enter Try.func37, Try.ntmps37
    go_wp2
    go_loopw [13] (fun i wr => ∃ j : Nat, j ≤ L.length ∧ i = .int .i64 (j : Int) ∧ Hid (L.take j = M.take j) ∧ ∃ n, wr = w.drewN n) (fun i _ => (L.length - intOf i).toNat)
    case atStart => exact ⟨0, by omega, by rfl, Lib.hid rfl, 0, rfl⟩
    case round =>
      obtain ⟨j, hj, rfl, HT, n, rfl⟩ := hrel
      by_cases hlt : j < L.length
      · obtain ⟨x, hx⟩ : ∃ x, L[j]? = some x := ⟨_, List.getElem?_eq_getElem hlt⟩
        have hlt' : j < M.length := by rw [← HL.out]; exact hlt
        obtain ⟨y, hy⟩ : ∃ y, M[j]? = some y := ⟨_, List.getElem?_eq_getElem hlt'⟩
        obtain ⟨B, d, e1, _, _, _, hrd, _⟩ := HR.out
        simp only [Value.slice.injEq, true_and] at e1
        obtain ⟨rfl, rfl⟩ := e1
        obtain ⟨b, o, rfl, hrow⟩ := rows_at scF_len hrd hx
        obtain ⟨B', d', e1, _, _, _, hrd', _⟩ := HR'.out
        simp only [Value.slice.injEq, true_and] at e1
        obtain ⟨rfl, rfl⟩ := e1
        obtain ⟨b', o', rfl, hrow'⟩ := rows_at scF_len hrd' hy
        have HTS : Hid (x = y ↔ L.take (j + 1) = M.take (j + 1)) := Lib.hid (take_step HT.out hx hy)
        have HNE : Hid (x ≠ y → L ≠ M) := Lib.hid (fun h e => h (by rw [e, hy] at hx; cases hx; rfl))
        obtain ⟨cs, hcs, hcl⟩ : ∃ cs : List Value, scF x = cs ∧ cs.length = 128 := ⟨_, rfl, scF_len _⟩
        obtain ⟨ds, hds, hdl⟩ : ∃ ds : List Value, scF y = ds ∧ ds.length = 128 := ⟨_, rfl, scF_len _⟩
        have heq : ∀ W : World, (Op.equalIn 10000 31 (.agg cs.toArray) (.agg ds.toArray)).run Try.prog W = .ok (decide (x = y)) W := fun W => by rw [← hcs, ← hds]; exact equal_scD W x y
        rw [hcs] at hrow
        rw [hds] at hrow'
        have hrw : (w.drewN n).drew.rangeAt b (o + j * 128) cs := hrow
        have hrw' : (w.drewN n).drew.rangeAt b' (o' + j * 128) ds := hrow'
        have hu := Try.underlying31
        have hi : (Try.prog.info? 31).map (·.size) = some cs.length := by rw [hcl]; exact size_sec
        have hi' : (Try.prog.info? 31).map (·.size) = some ds.length := by rw [hdl]; exact size_sec
        have hj0 : (0 : Int) ≤ (j : Int) := by omega
        have hj1 : (j : Int) < (L.length : Int) := by omega
        clear hx hy hrd hrd' hrow hrow' hcs hds
        have hwj : wrap64 ((j : Int) + 1) = (j : Int) + 1 := by rw [← i64_w]; exact IntWalk.i64_in _ (by omega)
        go_upto_region 6 with fail
        obtain ⟨bxy, hbxy⟩ : ∃ b : Bool, decide (x = y) = b := ⟨_, rfl⟩
        rw [hbxy] at heq
        refine wp_region_held_drew (S := (fun w' => w'.rangeAt b (o + j * 128) cs ∧ w'.rangeAt b' (o' + j * 128) ds)) (by kernel_rfl) (by exact ⟨hrw, hrw'⟩) (fun hHeld => ?_)
        refine take1_ (i := 0) (v := ?_) (a' := ?_) (some 16) #[true, false, false, false, false, false, false, false, false] rfl rfl (by kernel_rfl) (fun _ _ _ h => h) (Or.inl ⟨by rfl, ?_⟩) hHeld ?_ ?_
        rotate_left
        · (intro w hSw; (try dsimp only at hSw); obtain ⟨s1, s2⟩ := hSw; go_simp; (try with_reducible rfl))
        rotate_left
        · simp only [Act.put, List.setIfInBounds_toArray, List.set_cons_zero, List.set_cons_succ]
          rfl
        refine take1_ (i := 1) (v := ?_) (a' := ?_) (some 17) #[true, true, false, false, false, false, false, false, false] rfl rfl (by kernel_rfl) (fun _ _ _ h => h) (Or.inl ⟨by rfl, ?_⟩) hHeld ?_ ?_
        rotate_left
        · (intro w hSw; (try dsimp only at hSw); obtain ⟨s1, s2⟩ := hSw; go_simp; (try with_reducible rfl))
        rotate_left
        · simp only [Act.put, List.setIfInBounds_toArray, List.set_cons_zero, List.set_cons_succ]
          rfl
        refine take1_ (i := 2) (v := ?_) (a' := ?_) (some 18) #[true, true, true, false, false, false, false, false, false] rfl rfl (by kernel_rfl) (fun _ _ _ h => h) (Or.inl ⟨by rfl, ?_⟩) hHeld ?_ ?_
        rotate_left
        · (intro w hSw; (try dsimp only at hSw); obtain ⟨s1, s2⟩ := hSw; go_simp; (try with_reducible rfl))
        rotate_left
        · simp only [Act.put, List.setIfInBounds_toArray, List.set_cons_zero, List.set_cons_succ]
          rfl
        refine take1_ (i := 3) (v := .agg cs.toArray) (a' := ?_) (some 19) #[true, true, true, true, false, false, false, false, false] rfl rfl (by kernel_rfl) (fun _ _ _ h => h) (yieldsIf_load_mid (by rfl) 31 (.tmp 18) rfl b (o + j * 128) rfl cs _ (fun w h => h.1) hu rfl hi) hHeld ?_ ?_
        rotate_left
        · simp only [Act.put, List.setIfInBounds_toArray, List.set_cons_zero, List.set_cons_succ]
          rfl
        refine take1_ (i := 4) (v := ?_) (a' := ?_) (some 20) #[true, true, true, true, true, false, false, false, false] rfl rfl (by kernel_rfl) (fun _ _ _ h => h) (Or.inl ⟨by rfl, ?_⟩) hHeld ?_ ?_
        rotate_left
        · (intro w hSw; (try dsimp only at hSw); obtain ⟨s1, s2⟩ := hSw; go_simp; (try with_reducible rfl))
        rotate_left
        · simp only [Act.put, List.setIfInBounds_toArray, List.set_cons_zero, List.set_cons_succ]
          rfl
        refine take1_ (i := 5) (v := ?_) (a' := ?_) (some 21) #[true, true, true, true, true, true, false, false, false] rfl rfl (by kernel_rfl) (fun _ _ _ h => h) (Or.inl ⟨by rfl, ?_⟩) hHeld ?_ ?_
        rotate_left
        · (intro w hSw; (try dsimp only at hSw); obtain ⟨s1, s2⟩ := hSw; go_simp; (try with_reducible rfl))
        rotate_left
        · simp only [Act.put, List.setIfInBounds_toArray, List.set_cons_zero, List.set_cons_succ]
          rfl
        refine take1_ (i := 6) (v := ?_) (a' := ?_) (some 22) #[true, true, true, true, true, true, true, false, false] rfl rfl (by kernel_rfl) (fun _ _ _ h => h) (Or.inl ⟨by rfl, ?_⟩) hHeld ?_ ?_
        rotate_left
        · (intro w hSw; (try dsimp only at hSw); obtain ⟨s1, s2⟩ := hSw; go_simp; (try with_reducible rfl))
        rotate_left
        · simp only [Act.put, List.setIfInBounds_toArray, List.set_cons_zero, List.set_cons_succ]
          rfl
        refine take1_ (i := 7) (v := .agg ds.toArray) (a' := ?_) (some 23) #[true, true, true, true, true, true, true, true, false] rfl rfl (by kernel_rfl) (fun _ _ _ h => h) (yieldsIf_load_mid (by rfl) 31 (.tmp 22) rfl b' (o' + j * 128) rfl ds _ (fun w h => h.2) hu rfl hi') hHeld ?_ ?_
        rotate_left
        · simp only [Act.put, List.setIfInBounds_toArray, List.set_cons_zero, List.set_cons_succ]
          rfl
        refine take1_ (i := 8) (v := ?_) (a' := ?_) (some 24) #[true, true, true, true, true, true, true, true, true] rfl rfl (by kernel_rfl) (fun _ _ _ h => h) (Or.inl ⟨by rfl, ?_⟩) hHeld ?_ ?_
        rotate_left
        · (intro w hSw; (try dsimp only at hSw); obtain ⟨s1, s2⟩ := hSw; go_simp; (try with_reducible rfl))
        rotate_left
        · simp only [Act.put, List.setIfInBounds_toArray, List.set_cons_zero, List.set_cons_succ]
          rfl
        refine wpAnyH_done (by kernel_rfl) ?_ _
        clear hHeld hrw hrw' heq hu hi hi' hcl hdl
        cases bxy with
        | true =>
          have hxy := of_decide_eq_true hbxy
          have HT2 := Lib.hid (HTS.out.1 hxy)
          clear hbxy hxy HTS HNE
          simp only [Bool.not_true]
          go_wp2
          exact ⟨⟨j + 1, by omega, by go_num, HT2, n + 1, rfl⟩, by simp [intOf]; omega⟩
        | false =>
          have HX := Lib.hid (HNE.out (of_decide_eq_false hbxy))
          clear hbxy HTS HNE
          simp only [Bool.not_false]
          go_wp2
          go_ret
          exact ⟨by rw [decide_eq_false HX.out]; rfl, n + 1, rfl⟩
      · obtain rfl : j = L.length := by omega
        have hLM : L = M := by have := HT.out; rwa [List.take_length, HL.out, List.take_length] at this
        have HLM := Lib.hid hLM
        clear hLM
        go_wp2
        go_ret
        exact ⟨by rw [decide_eq_true HLM.out]; rfl, n, rfl⟩
  · have hne : L ≠ M := fun e => hl (by rw [e])
    have HNE := Lib.hid hne
    have t1 : ((L.length : Int) != (M.length : Int)) = true := by simp; omega
    clear hne hl
    go_enter Try.func37, Try.ntmps37
    go_wp2
    go_ret
    exact ⟨by rw [decide_eq_false HNE.out]; rfl, 0, rfl⟩
set_option maxRecDepth 100000 in
set_option maxHeartbeats 4000000 in
theorem equal_wrs {w : World} {F G : Nat → Prop} {v v' : Value} {L M : List Wr} (h : RowsAt w F wrF 129 v L) (h' : RowsAt w G wrF 129 v' M) (hL : L.length ≤ 65536) : Calls Try.prog 38 #[v, v'] w (EqTo L M w) := by
  have HR := Lib.hid h
  have HR' := Lib.hid h'
  obtain ⟨A, c, rfl, _⟩ := h
  obtain ⟨A', c', rfl, _⟩ := h'
  unfold EqTo
  by_cases hl : L.length = M.length
  · have HL := Lib.hid hl
    rw [← hl]
    clear hl
    have t1 : ((L.length : Int) != (L.length : Int)) = false := by simp
    go_enter Try.func38, Try.ntmps38
    go_wp2
    go_loopw [13] (fun i wr => ∃ j : Nat, j ≤ L.length ∧ i = .int .i64 (j : Int) ∧ Hid (L.take j = M.take j) ∧ ∃ n, wr = w.drewN n) (fun i _ => (L.length - intOf i).toNat)
    case atStart => exact ⟨0, by omega, by rfl, Lib.hid rfl, 0, rfl⟩
    case round =>
      obtain ⟨j, hj, rfl, HT, n, rfl⟩ := hrel
      by_cases hlt : j < L.length
      · obtain ⟨x, hx⟩ : ∃ x, L[j]? = some x := ⟨_, List.getElem?_eq_getElem hlt⟩
        have hlt' : j < M.length := by rw [← HL.out]; exact hlt
        obtain ⟨y, hy⟩ : ∃ y, M[j]? = some y := ⟨_, List.getElem?_eq_getElem hlt'⟩
        obtain ⟨B, d, e1, _, _, _, hrd, _⟩ := HR.out
        simp only [Value.slice.injEq, true_and] at e1
        obtain ⟨rfl, rfl⟩ := e1
        obtain ⟨b, o, rfl, hrow⟩ := rows_at wrF_len hrd hx
        obtain ⟨B', d', e1, _, _, _, hrd', _⟩ := HR'.out
        simp only [Value.slice.injEq, true_and] at e1
        obtain ⟨rfl, rfl⟩ := e1
        obtain ⟨b', o', rfl, hrow'⟩ := rows_at wrF_len hrd' hy
        have HTS : Hid (x = y ↔ L.take (j + 1) = M.take (j + 1)) := Lib.hid (take_step HT.out hx hy)
        have HNE : Hid (x ≠ y → L ≠ M) := Lib.hid (fun h e => h (by rw [e, hy] at hx; cases hx; rfl))
        obtain ⟨cs, hcs, hcl⟩ : ∃ cs : List Value, wrF x = cs ∧ cs.length = 129 := ⟨_, rfl, wrF_len _⟩
        obtain ⟨ds, hds, hdl⟩ : ∃ ds : List Value, wrF y = ds ∧ ds.length = 129 := ⟨_, rfl, wrF_len _⟩
        have heq : ∀ W : World, (Op.equalIn 10000 71 (.agg cs.toArray) (.agg ds.toArray)).run Try.prog W = .ok (decide (x = y)) W := fun W => by rw [← hcs, ← hds]; exact equal_wrD W x y
        rw [hcs] at hrow
        rw [hds] at hrow'
        have hrw : (w.drewN n).drew.rangeAt b (o + j * 129) cs := hrow
        have hrw' : (w.drewN n).drew.rangeAt b' (o' + j * 129) ds := hrow'
        have hu := Try.underlying71
        have hi : (Try.prog.info? 71).map (·.size) = some cs.length := by rw [hcl]; exact size_wr
        have hi' : (Try.prog.info? 71).map (·.size) = some ds.length := by rw [hdl]; exact size_wr
        have hj0 : (0 : Int) ≤ (j : Int) := by omega
        have hj1 : (j : Int) < (L.length : Int) := by omega
        clear hx hy hrd hrd' hrow hrow' hcs hds
        have hwj : wrap64 ((j : Int) + 1) = (j : Int) + 1 := by rw [← i64_w]; exact IntWalk.i64_in _ (by omega)
        go_upto_region 6 with fail
        obtain ⟨bxy, hbxy⟩ : ∃ b : Bool, decide (x = y) = b := ⟨_, rfl⟩
        rw [hbxy] at heq
        refine wp_region_held_drew (S := (fun w' => w'.rangeAt b (o + j * 129) cs ∧ w'.rangeAt b' (o' + j * 129) ds)) (by kernel_rfl) (by exact ⟨hrw, hrw'⟩) (fun hHeld => ?_)
        refine take1_ (i := 0) (v := ?_) (a' := ?_) (some 16) #[true, false, false, false, false, false, false, false, false] rfl rfl (by kernel_rfl) (fun _ _ _ h => h) (Or.inl ⟨by rfl, ?_⟩) hHeld ?_ ?_
        rotate_left
        · (intro w hSw; (try dsimp only at hSw); obtain ⟨s1, s2⟩ := hSw; go_simp; (try with_reducible rfl))
        rotate_left
        · simp only [Act.put, List.setIfInBounds_toArray, List.set_cons_zero, List.set_cons_succ]
          rfl
        refine take1_ (i := 1) (v := ?_) (a' := ?_) (some 17) #[true, true, false, false, false, false, false, false, false] rfl rfl (by kernel_rfl) (fun _ _ _ h => h) (Or.inl ⟨by rfl, ?_⟩) hHeld ?_ ?_
        rotate_left
        · (intro w hSw; (try dsimp only at hSw); obtain ⟨s1, s2⟩ := hSw; go_simp; (try with_reducible rfl))
        rotate_left
        · simp only [Act.put, List.setIfInBounds_toArray, List.set_cons_zero, List.set_cons_succ]
          rfl
        refine take1_ (i := 2) (v := ?_) (a' := ?_) (some 18) #[true, true, true, false, false, false, false, false, false] rfl rfl (by kernel_rfl) (fun _ _ _ h => h) (Or.inl ⟨by rfl, ?_⟩) hHeld ?_ ?_
        rotate_left
        · (intro w hSw; (try dsimp only at hSw); obtain ⟨s1, s2⟩ := hSw; go_simp; (try with_reducible rfl))
        rotate_left
        · simp only [Act.put, List.setIfInBounds_toArray, List.set_cons_zero, List.set_cons_succ]
          rfl
        refine take1_ (i := 3) (v := .agg cs.toArray) (a' := ?_) (some 19) #[true, true, true, true, false, false, false, false, false] rfl rfl (by kernel_rfl) (fun _ _ _ h => h) (yieldsIf_load_mid (by rfl) 71 (.tmp 18) rfl b (o + j * 129) rfl cs _ (fun w h => h.1) hu rfl hi) hHeld ?_ ?_
        rotate_left
        · simp only [Act.put, List.setIfInBounds_toArray, List.set_cons_zero, List.set_cons_succ]
          rfl
        refine take1_ (i := 4) (v := ?_) (a' := ?_) (some 20) #[true, true, true, true, true, false, false, false, false] rfl rfl (by kernel_rfl) (fun _ _ _ h => h) (Or.inl ⟨by rfl, ?_⟩) hHeld ?_ ?_
        rotate_left
        · (intro w hSw; (try dsimp only at hSw); obtain ⟨s1, s2⟩ := hSw; go_simp; (try with_reducible rfl))
        rotate_left
        · simp only [Act.put, List.setIfInBounds_toArray, List.set_cons_zero, List.set_cons_succ]
          rfl
        refine take1_ (i := 5) (v := ?_) (a' := ?_) (some 21) #[true, true, true, true, true, true, false, false, false] rfl rfl (by kernel_rfl) (fun _ _ _ h => h) (Or.inl ⟨by rfl, ?_⟩) hHeld ?_ ?_
        rotate_left
        · (intro w hSw; (try dsimp only at hSw); obtain ⟨s1, s2⟩ := hSw; go_simp; (try with_reducible rfl))
        rotate_left
        · simp only [Act.put, List.setIfInBounds_toArray, List.set_cons_zero, List.set_cons_succ]
          rfl
        refine take1_ (i := 6) (v := ?_) (a' := ?_) (some 22) #[true, true, true, true, true, true, true, false, false] rfl rfl (by kernel_rfl) (fun _ _ _ h => h) (Or.inl ⟨by rfl, ?_⟩) hHeld ?_ ?_
        rotate_left
        · (intro w hSw; (try dsimp only at hSw); obtain ⟨s1, s2⟩ := hSw; go_simp; (try with_reducible rfl))
        rotate_left
        · simp only [Act.put, List.setIfInBounds_toArray, List.set_cons_zero, List.set_cons_succ]
          rfl
        refine take1_ (i := 7) (v := .agg ds.toArray) (a' := ?_) (some 23) #[true, true, true, true, true, true, true, true, false] rfl rfl (by kernel_rfl) (fun _ _ _ h => h) (yieldsIf_load_mid (by rfl) 71 (.tmp 22) rfl b' (o' + j * 129) rfl ds _ (fun w h => h.2) hu rfl hi') hHeld ?_ ?_
        rotate_left
        · simp only [Act.put, List.setIfInBounds_toArray, List.set_cons_zero, List.set_cons_succ]
          rfl
        refine take1_ (i := 8) (v := ?_) (a' := ?_) (some 24) #[true, true, true, true, true, true, true, true, true] rfl rfl (by kernel_rfl) (fun _ _ _ h => h) (Or.inl ⟨by rfl, ?_⟩) hHeld ?_ ?_
        rotate_left
        · (intro w hSw; (try dsimp only at hSw); obtain ⟨s1, s2⟩ := hSw; go_simp; (try with_reducible rfl))
        rotate_left
        · simp only [Act.put, List.setIfInBounds_toArray, List.set_cons_zero, List.set_cons_succ]
          rfl
        refine wpAnyH_done (by kernel_rfl) ?_ _
        clear hHeld hrw hrw' heq hu hi hi' hcl hdl
        cases bxy with
        | true =>
          have hxy := of_decide_eq_true hbxy
          have HT2 := Lib.hid (HTS.out.1 hxy)
          clear hbxy hxy HTS HNE
          simp only [Bool.not_true]
          go_wp2
          exact ⟨⟨j + 1, by omega, by go_num, HT2, n + 1, rfl⟩, by simp [intOf]; omega⟩
        | false =>
          have HX := Lib.hid (HNE.out (of_decide_eq_false hbxy))
          clear hbxy HTS HNE
          simp only [Bool.not_false]
          go_wp2
          go_ret
          exact ⟨by rw [decide_eq_false HX.out]; rfl, n + 1, rfl⟩
      · obtain rfl : j = L.length := by omega
        have hLM : L = M := by have := HT.out; rwa [List.take_length, HL.out, List.take_length] at this
        have HLM := Lib.hid hLM
        clear hLM
        go_wp2
        go_ret
        exact ⟨by rw [decide_eq_true HLM.out]; rfl, n, rfl⟩
  · have hne : L ≠ M := fun e => hl (by rw [e])
    have HNE := Lib.hid hne
    have t1 : ((L.length : Int) != (M.length : Int)) = true := by simp; omega
    clear hne hl
    go_enter Try.func38, Try.ntmps38
    go_wp2
    go_ret
    exact ⟨by rw [decide_eq_false HNE.out]; rfl, 0, rfl⟩
end Go.Proofs.Ytiehfaiadhhndaa
