/-
  Codec: the reference's Sealed.
-/
import Derived.Test.YtlcbfpcabalgcaaCodH
import Derived.Test.YtlcbfpcabalgcaaSealR
import Derived.Test.YtlcbfpcabalgcaaRef01
namespace Go.Proofs.Ytlcbfpcabalgcaa
open Go.RowKit
set_option linter.unusedVariables false
set_option linter.unusedSimpArgs false
set_option linter.unnecessarySimpa false
def fldF (x : Nat × Int) : List Value := [.int .i64 (x.1 : Int), .int .i64 x.2]
theorem fldF_len (x : Nat × Int) : (fldF x).length = 2 := rfl
theorem fldF_one : ∀ x, ∀ u ∈ fldF x, u.oneCell' = true := by intro x u hu; simp [fldF] at hu; rcases hu with rfl | rfl <;> rfl
def FldOk (x : Nat × Int) : Prop := 1 ≤ x.1 ∧ x.1 ≤ 8 ∧ I64 x.2
theorem hasB_fit (k x : Nat) (h : 1 ≤ k ∧ k ≤ 8) : hasB k x = fitB k x := by
  unfold hasB fitB putOk fitsB
  congr 1
  rw [decide_eq_decide]; omega
theorem fB_snoc (L : List (Nat × Int)) (k : Nat) (x : Nat × Int) (h : L[k]? = some x) : fB (L.take (k + 1)) = fB (L.take k) ++ wB x.1 x.2.toNat := by
  obtain ⟨hk, rfl⟩ := List.getElem?_eq_some_iff.1 h
  rw [List.take_succ_eq_append_getElem hk, fB_append]; simp [fB]
theorem fBad_snoc (L : List (Nat × Int)) (k : Nat) (x : Nat × Int) (h : L[k]? = some x) : fBad (L.take (k + 1)) = (fBad (L.take k) || (decide (x.2 < 0) || !fitB x.1 x.2.toNat)) := by
  obtain ⟨hk, rfl⟩ := List.getElem?_eq_some_iff.1 h
  rw [List.take_succ_eq_append_getElem hk, fBad_append]; simp [fBad]
theorem fBad_at (L : List (Nat × Int)) (k : Nat) (x : Nat × Int) (h : L[k]? = some x) (hb : (decide (x.2 < 0) || !fitB x.1 x.2.toNat) = true) : fBad L = true := by
  obtain ⟨hk, rfl⟩ := List.getElem?_eq_some_iff.1 h
  have : L = L.take k ++ L[k] :: L.drop (k + 1) := by rw [← List.drop_eq_getElem_cons hk, List.take_append_drop]
  rw [this, fBad_append, fBad, hb]; simp
theorem fB_le (L : List (Nat × Int)) (h : ∀ x ∈ L, FldOk x) : (fB L).length ≤ 8 * L.length := by
  induction L with
  | nil => simp [fB]
  | cons x r ih =>
    have h1 := ih (fun y hy => h y (List.mem_cons_of_mem _ hy))
    have h2 := (h x List.mem_cons_self).2.1
    rw [fB, List.length_append, wB_len, List.length_cons]; omega
/-- What the reference's Sealed comes to. -/
def RsS (w : World) (kind : UInt8) (ok : Bool) (L : List UInt8) (e : Ending) (w' : World) : Prop := e = .returned (.tuple #[secV (wrS kind ok L), .bool (ok && mayB kind L)]) ∧ Below w.heap.size w w'
theorem rsS_no {w w' : World} {kind : UInt8} {ok : Bool} {L : List UInt8} {e : Ending} (h : ok = false) (he : e = .returned (.tuple #[secV (List.replicate 128 0), .bool false])) (hb : Below w.heap.size w w') : RsS w kind ok L e w' := by
  subst h; exact ⟨he, hb⟩
theorem rsS_yes {w w' : World} {kind : UInt8} {ok : Bool} {L : List UInt8} {e : Ending} (h : ok = true) (he : e = .returned (.tuple #[secV (makeS kind L), .bool (mayB kind L)])) (hb : Below w.heap.size w w') : RsS w kind ok L e w' := by
  subst h; exact ⟨he, hb⟩
set_option maxRecDepth 10000 in
set_option maxHeartbeats 8000000 in
theorem rsealed_any (kind : UInt8) (v : Value) (L : List (Nat × Int)) (w : World) (h : RowsAt w (fun _ => False) fldF 2 v L) (hL : ∀ x ∈ L, FldOk x) (hn : L.length ≤ 1000) :
    Calls Try.prog 48 #[.int .u8 (kind.toNat : Int), v] w (RsS w kind (!fBad L) (fB L)) := by
  have hb2 : Below w.heap.size w (w.alloc (.cells Try.zeroCells28 28 (0, 0))) := (Below.refl _ _).alloc (Nat.le_refl _) _
  have hT2 := heap_alloc_last w (.cells Try.zeroCells28 28 (0, 0))
  have hR2 := h.below fldF_len hb2
  have hs2 : (w.alloc (.cells Try.zeroCells28 28 (0, 0))).heap.size = w.heap.size + 1 := by simp
  clear h
  obtain ⟨A, c, rfl, hc1, hc2, hc3, hc4, hc5⟩ := hR2
  have HRD := Lib.hid hc4
  have HRB := Lib.hid hc5
  have HT2 := Lib.hid hT2
  have HB2 := Lib.hid hb2
  have HS2 := Lib.hid hs2
  have HL := Lib.hid hL
  clear hb2 hT2 hc4 hc5 hc3 hs2 hL
  have hc1' := hc1
  unfold maxLen at hc2
  go_enter Try.func48, Try.ntmps48
  go_wp2
  revert HRD HRB HT2 HB2 HS2
  generalize w.alloc (.cells Try.zeroCells28 28 (0, 0)) = w2
  intro HRD HRB HT2 HB2 HS2
  go_loopw [6, 7] (fun vb i wr => ∃ k : Nat, k ≤ L.length ∧ i = .int .i64 (k : Int) ∧ Hid (wr.ownsRow w2.heap.size 5 1 vb (fB (L.take k)).length (bvs (fB (L.take k)))) ∧ Hid (fBad (L.take k) = false) ∧ Hid (Below w2.heap.size w2 wr)) (fun _ i _ => (L.length - intOf i).toNat)
  case atStart => exact ⟨0, by omega, rfl, Lib.hid (own_none _ _ _), Lib.hid rfl, Lib.hid (Below.refl _ _)⟩
  case round =>
    obtain ⟨k, hk, rfl, HO, HF, HBB⟩ := hrel
    obtain ⟨sb, cb, rfl⟩ := own_slice1 HO.out
    have hfl : (fB (L.take k)).length ≤ 8000 := by
      have h1 := fB_le (L.take k) (fun y hy => HL.out y (List.mem_of_mem_take hy))
      have h2 : (L.take k).length ≤ k := List.length_take_le _ _
      omega
    by_cases hlt : k < L.length
    · obtain ⟨x, hx⟩ : ∃ x, L[k]? = some x := ⟨_, List.getElem?_eq_getElem hlt⟩
      obtain ⟨b, o, rfl, hr⟩ := rows_at fldF_len HRD.out hx
      have hxm := HL.out x (List.mem_of_getElem? hx)
      obtain ⟨kw, n⟩ := x
      have hbl := (HRB.out _ rfl).1
      dsimp only at hbl
      obtain ⟨hw1, hw8, hn1, hn2⟩ := hxm
      dsimp only at hw1 hw8 hn1 hn2
      have e0 : w2.cell? ⟨b, o + k * 2, none⟩ = some (.int .i64 (kw : Int)) := by have := hr 0 _ rfl; simpa using this
      have e1 : w2.cell? ⟨b, o + k * 2 + 1, none⟩ = some (.int .i64 n) := by have := hr 1 _ rfl; simpa using this
      have c0 : wr.cell? ⟨b, o + k * 2, none⟩ = some (.int .i64 (kw : Int)) := (HBB.out.cell (p := ⟨b, o + k * 2, none⟩) hbl).trans e0
      have c1 : wr.cell? ⟨b, o + k * 2 + 1, none⟩ = some (.int .i64 n) := (HBB.out.cell (p := ⟨b, o + k * 2 + 1, none⟩) hbl).trans e1
      have HX := Lib.hid hx
      have HE0 := Lib.hid e0
      have HE1 := Lib.hid e1
      clear hx hr e0 e1
      have HT4 := Lib.hid ((HBB.out.block w.heap.size (by rw [HS2.out]; omega)).trans HT2.out)
      by_cases hneg : n < 0
      · have hnd : decide (n < 0) = true := by simpa using hneg
        have hbad := fBad_at L k _ HX.out (by simp [hneg])
        have HBAD := Lib.hid hbad
        clear hbad
        go_upto_region 5 with fail
        go_quiet (fail)
        rename_i nq
        have HB4 : Hid (Below w.heap.size w (wr.drewN nq)) := Lib.hid (bdrewN (HB2.out.trans (HBB.out.mono (by rw [HS2.out]; omega))) nq)
        have HT5 : Hid ((wr.drewN nq).heap[w.heap.size]? = some (.cells zArr 28 (0, 0))) := HT4
        revert HB4 HT5
        generalize wr.drewN nq = w5
        intro HB4 HT5
        go_wp2_with (refine wpList_store_row rfl 28 (.tmp 4) (.tmp 35) rfl w.heap.size zArr zArr 28 rfl rfl HT5.out (by rw [zArr_size]; exact size_arr) rfl zArr_one ?_)
        have hld := run_loadVar_row (P := Try.prog) (w5.setRow w.heap.size zArr) w.heap.size 28 28 zArr (0, 0) _ (setRow_heap _ _ _ _ _ _ HT5.out) Try.underlying28 (by simp) (by rw [zArr_size]; exact size_arr)
        exact bodyPost_ret (v := .tuple #[secV (List.replicate 128 0), .bool false]) (results_cell2 Try.results48 rfl rfl hld) rfl (rsS_no (by rw [HBAD.out]; rfl) rfl (below_row HB4.out (Nat.le_refl _)))
      · have hnd : decide (n < 0) = false := by simpa using hneg
        obtain ⟨m, rfl⟩ : ∃ m : Nat, n = (m : Int) := ⟨n.toNat, by omega⟩
        have hcv : IntKind.u64.wrap (m : Int) = (m : Int) := by rw [IntKind.wrap_u64]; omega
        have hH := fun W => has_any (kw : Int) m W (by omega)
        rw [hasB_fit kw m ⟨hw1, hw8⟩] at hH
        obtain ⟨ft, hft⟩ : ∃ ft, fitB kw m = ft := ⟨_, rfl⟩
        rw [hft] at hH
        have HH := fun W => Lib.hid (hH W)
        have HFT := Lib.hid hft
        clear hH hft
        go_upto_region 5 with fail
        cases ft with
        | false =>
          have hbad := fBad_at L k _ HX.out (by simp [HFT.out])
          have HBAD := Lib.hid hbad
          clear hbad
          go_quiet ((go_at_call 83; exact Calls.quiet_of_same ((HH _).out.mono fun _ _ h => ⟨h.1, h.2.symm⟩)))
          rename_i nq
          have HB4 : Hid (Below w.heap.size w (wr.drewN nq)) := Lib.hid (bdrewN (HB2.out.trans (HBB.out.mono (by rw [HS2.out]; omega))) nq)
          have HT5 : Hid ((wr.drewN nq).heap[w.heap.size]? = some (.cells zArr 28 (0, 0))) := HT4
          revert HB4 HT5
          generalize wr.drewN nq = w5
          intro HB4 HT5
          go_wp2_with (refine wpList_store_row rfl 28 (.tmp 4) (.tmp 35) rfl w.heap.size zArr zArr 28 rfl rfl HT5.out (by rw [zArr_size]; exact size_arr) rfl zArr_one ?_)
          have hld := run_loadVar_row (P := Try.prog) (w5.setRow w.heap.size zArr) w.heap.size 28 28 zArr (0, 0) _ (setRow_heap _ _ _ _ _ _ HT5.out) Try.underlying28 (by simp) (by rw [zArr_size]; exact size_arr)
          exact bodyPost_ret (v := .tuple #[secV (List.replicate 128 0), .bool false]) (results_cell2 Try.results48 rfl rfl hld) rfl (rsS_no (by rw [HBAD.out]; rfl) rfl (below_row HB4.out (Nat.le_refl _)))
        | true =>
          go_quiet ((go_at_call 83; exact Calls.quiet_of_same ((HH _).out.mono fun _ _ h => ⟨h.1, h.2.symm⟩)))
          rename_i nq
          have HBn : Hid (Below w2.heap.size w2 (wr.drewN nq)) := Lib.hid (bdrewN HBB.out nq)
          have HOn : Hid ((wr.drewN nq).ownsRow w2.heap.size 5 1 (.slice sb (fB (L.take k)).length cb) (fB (L.take k)).length (bvs (fB (L.take k)))) := HO
          clear c0 c1 HO HBB HT4
          revert HBn HOn
          generalize wr.drewN nq = w5
          intro HBn HOn
          go_upto_region 7 with fail
          have HBD : Hid (Below w2.heap.size w2 w5.drew) := Lib.hid HBn.out.drew
          have HOD : Hid (w5.drew.ownsRow w2.heap.size 5 1 (.slice sb (fB (L.take k)).length cb) (fB (L.take k)).length (bvs (fB (L.take k)))) := HOn
          have HLO := fun w' => Lib.hid (low_any m kw w' (by omega) (by omega))
          refine wp_region_held_drew (S := (fun w' => w'.cell? ⟨b, o + k * 2, none⟩ = some (.int .i64 (kw : Int)) ∧ w'.cell? ⟨b, o + k * 2 + 1, none⟩ = some (.int .i64 (m : Int)))) (by kernel_rfl) (by exact ⟨(HBD.out.cell (p := ⟨b, o + k * 2, none⟩) hbl).trans HE0.out, (HBD.out.cell (p := ⟨b, o + k * 2 + 1, none⟩) hbl).trans HE1.out⟩) (fun hHeld => ?_)
          refine take1_ (i := 0) (v := ?_) (a' := ?_) (some 36) #[true, false, false, false, false, false, false, false, false, false, false, false, false, false, false] rfl rfl (by kernel_rfl) (fun _ _ _ h => h) (Or.inl ⟨by rfl, ?_⟩) hHeld ?_ ?_
          rotate_left
          · (intro w hSw; (try dsimp only at hSw); obtain ⟨c0, c1⟩ := hSw; go_simp; (try with_reducible rfl))
          rotate_left
          · simp only [Act.put, List.setIfInBounds_toArray, List.set_cons_zero, List.set_cons_succ]
            rfl
          refine take1_ (i := 1) (v := ?_) (a' := ?_) (some 37) #[true, true, false, false, false, false, false, false, false, false, false, false, false, false, false] rfl rfl (by kernel_rfl) (fun _ _ _ h => h) (Or.inl ⟨by rfl, ?_⟩) hHeld ?_ ?_
          rotate_left
          · (intro w hSw; (try dsimp only at hSw); obtain ⟨c0, c1⟩ := hSw; go_simp; (try with_reducible rfl))
          rotate_left
          · simp only [Act.put, List.setIfInBounds_toArray, List.set_cons_zero, List.set_cons_succ]
            rfl
          refine take1_ (i := 2) (v := ?_) (a' := ?_) (some 38) #[true, true, true, false, false, false, false, false, false, false, false, false, false, false, false] rfl rfl (by kernel_rfl) (fun _ _ _ h => h) (Or.inl ⟨by rfl, ?_⟩) hHeld ?_ ?_
          rotate_left
          · (intro w hSw; (try dsimp only at hSw); obtain ⟨c0, c1⟩ := hSw; go_simp; (try with_reducible rfl))
          rotate_left
          · simp only [Act.put, List.setIfInBounds_toArray, List.set_cons_zero, List.set_cons_succ]
            rfl
          refine take1_ (i := 3) (v := ?_) (a' := ?_) (some 39) #[true, true, true, true, false, false, false, false, false, false, false, false, false, false, false] rfl rfl (by kernel_rfl) (fun _ _ _ h => h) (Or.inl ⟨by rfl, ?_⟩) hHeld ?_ ?_
          rotate_left
          · (intro w hSw; (try dsimp only at hSw); obtain ⟨c0, c1⟩ := hSw; go_simp; (try with_reducible rfl))
          rotate_left
          · simp only [Act.put, List.setIfInBounds_toArray, List.set_cons_zero, List.set_cons_succ]
            rfl
          refine take1_ (i := 4) (v := ?_) (a' := ?_) (some 40) #[true, true, true, true, true, false, false, false, false, false, false, false, false, false, false] rfl rfl (by kernel_rfl) (fun _ _ _ h => h) (Or.inl ⟨by rfl, ?_⟩) hHeld ?_ ?_
          rotate_left
          · (intro w hSw; (try dsimp only at hSw); obtain ⟨c0, c1⟩ := hSw; go_simp; (try with_reducible rfl))
          rotate_left
          · simp only [Act.put, List.setIfInBounds_toArray, List.set_cons_zero, List.set_cons_succ]
            rfl
          refine take1_ (i := 5) (v := ?_) (a' := ?_) (some 41) #[true, true, true, true, true, true, false, false, false, false, false, false, false, false, false] rfl rfl (by kernel_rfl) (fun _ _ _ h => h) (Or.inl ⟨by rfl, ?_⟩) hHeld ?_ ?_
          rotate_left
          · (intro w hSw; (try dsimp only at hSw); obtain ⟨c0, c1⟩ := hSw; go_simp; (try with_reducible rfl))
          rotate_left
          · simp only [Act.put, List.setIfInBounds_toArray, List.set_cons_zero, List.set_cons_succ]
            rfl
          refine take1_ (i := 6) (v := ?_) (a' := ?_) (some 42) #[true, true, true, true, true, true, true, false, false, false, false, false, false, false, false] rfl rfl (by kernel_rfl) (fun _ _ _ h => h) (Or.inl ⟨by rfl, ?_⟩) hHeld ?_ ?_
          rotate_left
          · (intro w hSw; (try dsimp only at hSw); obtain ⟨c0, c1⟩ := hSw; go_simp; (try with_reducible rfl))
          rotate_left
          · simp only [Act.put, List.setIfInBounds_toArray, List.set_cons_zero, List.set_cons_succ]
            rfl
          refine take1_ (i := 7) (v := ?_) (a' := ?_) (some 43) #[true, true, true, true, true, true, true, true, false, false, false, false, false, false, false] rfl rfl (by kernel_rfl) (fun _ _ _ h => h) (Or.inl ⟨by rfl, ?_⟩) hHeld ?_ ?_
          rotate_left
          · (intro w hSw; (try dsimp only at hSw); obtain ⟨c0, c1⟩ := hSw; go_simp; (try with_reducible rfl))
          rotate_left
          · simp only [Act.put, List.setIfInBounds_toArray, List.set_cons_zero, List.set_cons_succ]
            rfl
          refine take1_ (i := 8) (v := ?_) (a' := ?_) (some 44) #[true, true, true, true, true, true, true, true, true, false, false, false, false, false, false] rfl rfl (by kernel_rfl) (fun _ _ _ h => h) (Or.inl ⟨by rfl, ?_⟩) hHeld ?_ ?_
          rotate_left
          · (intro w hSw; (try dsimp only at hSw); obtain ⟨c0, c1⟩ := hSw; go_simp; (try with_reducible rfl))
          rotate_left
          · simp only [Act.put, List.setIfInBounds_toArray, List.set_cons_zero, List.set_cons_succ]
            rfl
          refine take1_ (i := 9) (v := ?_) (a' := ?_) (some 45) #[true, true, true, true, true, true, true, true, true, true, false, false, false, false, false] rfl rfl (by kernel_rfl) (fun _ _ _ h => h) (Or.inl ⟨by rfl, ?_⟩) hHeld ?_ ?_
          rotate_left
          · (intro w hSw; (try dsimp only at hSw); obtain ⟨c0, c1⟩ := hSw; go_simp; (try with_reducible rfl))
          rotate_left
          · simp only [Act.put, List.setIfInBounds_toArray, List.set_cons_zero, List.set_cons_succ]
            rfl
          refine take1_ (i := 10) (v := ?_) (a' := ?_) (some 46) #[true, true, true, true, true, true, true, true, true, true, true, false, false, false, false] rfl rfl (by kernel_rfl) (fun _ _ _ h => h) (Or.inl ⟨by rfl, ?_⟩) hHeld ?_ ?_
          rotate_left
          · (intro w hSw; (try dsimp only at hSw); obtain ⟨c0, c1⟩ := hSw; go_simp; (try with_reducible rfl))
          rotate_left
          · simp only [Act.put, List.setIfInBounds_toArray, List.set_cons_zero, List.set_cons_succ]
            rfl
          refine take1_ (i := 11) (v := ?_) (a' := ?_) (some 47) #[true, true, true, true, true, true, true, true, true, true, true, true, false, false, false] rfl rfl (by kernel_rfl) (fun _ _ _ h => h) (Or.inl ⟨by rfl, ?_⟩) hHeld ?_ ?_
          rotate_left
          · (intro w hSw; (try dsimp only at hSw); obtain ⟨c0, c1⟩ := hSw; go_simp; (try with_reducible rfl))
          rotate_left
          · simp only [Act.put, List.setIfInBounds_toArray, List.set_cons_zero, List.set_cons_succ]
            rfl
          refine loud1_ (i := 12) (some 48) #[true, true, true, true, true, true, true, true, true, true, true, true, true, false, false] rfl rfl (by kernel_rfl) (fun K hK => ?_)
          go_simp
          (go_at_call 56; refine (HLO _).out.mono ?_; rintro e w6 ⟨v6, rfl, ho6, hb6⟩; have HR6 := Lib.hid (own_rd ho6); have HO6 := Lib.hid (own_below HOD.out hb6); have HB6 := Lib.hid (HBD.out.trans (hb6.mono HBD.out.size)); have hnx := HB6.out; clear ho6 hb6)
          refine hK.out _ _ (by exact ⟨(hnx.cell (p := ⟨b, o + k * 2, none⟩) hbl).trans HE0.out, (hnx.cell (p := ⟨b, o + k * 2 + 1, none⟩) hbl).trans HE1.out⟩) (fun hHeld' => ?_)
          clear hK K hHeld
          have hHeld := hHeld'
          clear hHeld'
          try simp only [Act.put, List.setIfInBounds_toArray, List.set_cons_zero, List.set_cons_succ]
          refine loud1_ (i := 13) (some 49) #[true, true, true, true, true, true, true, true, true, true, true, true, true, true, false] rfl rfl (by kernel_rfl) (fun K hK => ?_)
          (refine step_append_rd (by rfl) (.tmp 36) (.tmp 48) 26 (by rfl) w2.heap.size 5 (.int .u8 0) 1 1 Try.underlying26 infoU8 rfl (by decide) _ _ _ (by rfl) HO6.out _ _ (bvs (le kw m)) (by rfl) HR6.out (bvs_oneCell _) ?c2 (by decide) HB6.out.size ?_; (case c2 => rw [le_length]; omega); intro v7 w7 hown7 hbel7 hg7; have HO7 := Lib.hid hown7; have HB7 := Lib.hid (HB6.out.trans hbel7); have hnx := HB7.out; clear hown7 hbel7 hg7)
          refine hK.out _ _ (by exact ⟨(hnx.cell (p := ⟨b, o + k * 2, none⟩) hbl).trans HE0.out, (hnx.cell (p := ⟨b, o + k * 2 + 1, none⟩) hbl).trans HE1.out⟩) (fun hHeld' => ?_)
          clear hK K hHeld
          have hHeld := hHeld'
          clear hHeld'
          try simp only [Act.put, List.setIfInBounds_toArray, List.set_cons_zero, List.set_cons_succ]
          refine take1_ (i := 14) (v := ?_) (a' := ?_) (some 6) #[true, true, true, true, true, true, true, true, true, true, true, true, true, true, true] rfl rfl (by kernel_rfl) (fun _ _ _ h => h) (Or.inl ⟨by rfl, ?_⟩) hHeld ?_ ?_
          rotate_left
          · (intro w hSw; (try dsimp only at hSw); obtain ⟨c0, c1⟩ := hSw; go_simp; (try with_reducible rfl))
          rotate_left
          · simp only [Act.put, List.setIfInBounds_toArray, List.set_cons_zero, List.set_cons_succ]
            rfl
          refine wpAnyH_done (by kernel_rfl) ?_ _
          clear hHeld hnx HR6 HO6 HB6 HBD HOD HLO HBn HOn
          have hsn := fB_snoc L k _ HX.out
          have hbn := fBad_snoc L k _ HX.out
          have hwb : wB kw m = le kw m := by unfold wB; rw [HFT.out]; rfl
          simp only [Int.toNat_natCast] at hsn hbn
          rw [hwb] at hsn
          rw [HF.out, HFT.out, hnd] at hbn
          have HO8 : Hid (w7.ownsRow w2.heap.size 5 1 v7 (fB (L.take (k + 1))).length (bvs (fB (L.take (k + 1))))) := Lib.hid (by
            have := HO7.out
            rw [← bvs_append, ← List.length_append, ← hsn] at this
            exact this)
          have HF8 : Hid (fBad (L.take (k + 1)) = false) := Lib.hid hbn
          clear hsn hbn hwb HO7 HF
          go_wp2
          go_roundw
          case rel => exact ⟨k + 1, by omega, by go_num, HO8, HF8, HB7⟩
          case measure => simp [intOf]; omega
    · obtain rfl : k = L.length := by omega
      have ht : L.take L.length = L := List.take_length
      rw [ht] at HO HF hfl
      clear ht
      have HT4 := Lib.hid ((HBB.out.block w.heap.size (by rw [HS2.out]; omega)).trans HT2.out)
      have HB4 := Lib.hid (HB2.out.trans (HBB.out.mono (by rw [HS2.out]; omega)))
      have HMK := Lib.hid (rmake_any kind _ (fB L) wr (own_byt HO.out).1)
      have hms : (bvs (makeS kind (fB L))).toArray.size = 128 := by rw [secV_size, makeS_length]
      have HMS := Lib.hid hms
      clear hms
      obtain ⟨S, hS⟩ : ∃ S, makeS kind (fB L) = S := ⟨_, rfl⟩
      obtain ⟨N, hN⟩ : ∃ N, mayB kind (fB L) = N := ⟨_, rfl⟩
      rw [hS, hN] at HMK
      rw [hS] at HMS
      have HS := Lib.hid hS
      have HN := Lib.hid hN
      clear hS hN
      unfold secV at HMK
      go_wp2_with (first
        | (go_at_call 57; refine HMK.out.mono ?_; rintro e w5 ⟨rfl, hb5⟩; have HT5 := Lib.hid (old_heap HT4.out hb5); have HB5 := Lib.hid (bnext HB4.out hb5); clear hb5)
        | (refine wpList_store_row rfl 28 (.tmp 4) (.tmp 53) rfl w.heap.size zArr (bvs S).toArray 28 rfl rfl HT5.out (by rw [HMS.out]; exact size_arr) (by rw [HMS.out, zArr_size]) (sec_one _) ?_))
      have hld := run_loadVar_row (P := Try.prog) (w5.setRow w.heap.size (bvs S).toArray) w.heap.size 28 28 (bvs S).toArray (0, 0) _ (setRow_heap _ _ _ _ _ _ HT5.out) Try.underlying28 (by simp) (by rw [HMS.out]; exact size_arr)
      exact bodyPost_ret (v := .tuple #[secV S, .bool N]) (results_cell2 Try.results48 rfl rfl hld) rfl (rsS_yes (by rw [HF.out]; rfl) (by rw [HS.out, HN.out]) (below_row HB5.out (Nat.le_refl _)))
end Go.Proofs.Ytlcbfpcabalgcaa
