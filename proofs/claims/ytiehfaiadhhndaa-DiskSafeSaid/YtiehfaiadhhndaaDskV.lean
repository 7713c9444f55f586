/-
  Disk: the reference's Crash.
-/
import Derived.Test.YtiehfaiadhhndaaDskU
namespace Go.Proofs.Ytiehfaiadhhndaa
open Go.RowKit
set_option linter.unusedVariables false
set_option linter.unusedSimpArgs false
set_option linter.unnecessarySimpa false
theorem keptN_stop {Q : List Wr} {K : List Bool} {j : Nat} (h : K.length ≤ j) : ∀ d, keptN Q K (j + d) = keptN Q K j
  | 0 => rfl
  | d + 1 => by
    rw [← Nat.add_assoc]
    show (if K.getD (j + d) false then _ else _) = _
    have : K.getD (j + d) false = false := by rw [List.getD_eq_getElem?_getD, List.getElem?_eq_none (by omega)]; rfl
    rw [this, if_neg (by simp)]
    exact keptN_stop h d
def RRefTo (w : World) (F : Nat → Prop) (D : Dk) (e : Ending) (w' : World) : Prop := ∃ vS vQ, e = .returned (rdV D vS vQ) ∧ RefAt w' F vS vQ D ∧ Below w.heap.size w w'
set_option maxRecDepth 100000 in
set_option maxHeartbeats 8000000 in
theorem rcrash3_any {w : World} {F : Nat → Prop} {vS vQ : Value} {D : Dk} {m : Nat} (h : RefAt w F vS vQ D) (hF : ∀ k, F k → k < w.heap.size) (hm : m ≤ 1000) (ho : DOk D m) (hS1 : 1 ≤ D.S.length) (hS : D.S.length ≤ 65536) (A3 : Option Addr) (c3 : Nat) (K : List Bool) (hK : ReadAt w A3 boF 1 K) (hKm : K.length ≤ maxLen) :
    Calls Try.prog 34 #[rdV D vS vQ, .slice A3 K.length c3] w (RRefTo w F (crashD D K)) := by
  unfold maxLen at hKm
  have HR := Lib.hid h
  have HK := Lib.hid hK
  have HO := Lib.hid ho
  obtain ⟨A, c, rfl, _⟩ := h.secs
  obtain ⟨A2, c2, rfl, _⟩ := h.que
  clear h hK
  unfold rdV
  have hQl : D.Q.length ≤ 1000 := by have := ho.len; omega
  obtain ⟨w1, hw1, hb1, hx1, hx2, hsz1⟩ := two_boxes w (.slice A D.S.length c) (.slice A2 D.Q.length c2) (.bool D.dead) (.int .i64 D.arm) (.int .i64 D.deeds)
  have HX1 := Lib.hid hx1
  have HX2 := Lib.hid hx2
  have HB1 := Lib.hid hb1
  have HW1 := Lib.hid hw1
  clear hw1 hb1 hx1 hx2 ho
  go_enter Try.func34, Try.ntmps34
  go_upto_region 1 with fail
  rw [HW1.out]
  clear HW1
  go_wp2
  go_loopw [5, 6] (fun v i wr => ∃ j : Nat, j ≤ D.Q.length ∧ i = .int .i64 (j : Int) ∧ Hid (wr.ownsRow w1.heap.size 63 129 v (keptN D.Q K j).length (rowsOf wrF (keptN D.Q K j))) ∧ Hid (Below w1.heap.size w1 wr)) (fun _ i _ => (D.Q.length - intOf i).toNat)
  case atStart => exact ⟨0, by omega, by rfl, Lib.hid (World.ownsRow_nil _ _ _ _), Lib.hid (Below.refl _ _)⟩
  case round =>
    obtain ⟨j, hj, rfl, HO5, HB⟩ := hrel
    obtain ⟨sk, ck, rfl⟩ := own_slice1 HO5.out
    have hx1 := old_heap HX1.out HB.out
    have HX1r := Lib.hid hx1
    have HX2r := Lib.hid (old_heap HX2.out HB.out)
    have HBr := Lib.hid (bnext HB1.out HB.out)
    have hkle := keptN_le D.Q K j
    have hszr := HB.out.size
    have k0 : wr.cell? ⟨w.heap.size, 0, none⟩ = some (.slice A D.S.length c) := cell_row hx1 0; have k1 : wr.cell? ⟨w.heap.size, 1, none⟩ = some (.slice A2 D.Q.length c2) := cell_row hx1 1; have k2 : wr.cell? ⟨w.heap.size, 2, none⟩ = some (.bool D.dead) := cell_row hx1 2; have k3 : wr.cell? ⟨w.heap.size, 3, none⟩ = some (.int .i64 D.arm) := cell_row hx1 3; have k4 : wr.cell? ⟨w.heap.size, 4, none⟩ = some (.int .i64 D.deeds) := cell_row hx1 4
    by_cases hgo : j < D.Q.length ∧ j < K.length
    · obtain ⟨hlt, hjk⟩ := hgo
      obtain ⟨q, hq⟩ : ∃ q, D.Q[j]? = some q := ⟨_, List.getElem?_eq_getElem hlt⟩
      obtain ⟨A', c', e1, _, _, _, hrd, hbl⟩ := HR.out.que
      simp only [Value.slice.injEq, true_and] at e1
      obtain ⟨rfl, rfl⟩ := e1
      obtain ⟨b, o, rfl, hrow⟩ := rows_at wrF_len hrd hq
      have hb : b < w.heap.size := (hbl _ rfl).1
      have hrw : wr.rangeAt b (o + j * 129) (wrF q) := fun i v hv => (HBr.out.cell (p := ⟨b, _, none⟩) hb).trans (hrow i v hv)
      obtain ⟨ws, hws, hwl, hwo⟩ : ∃ ws : List Value, wrF q = ws ∧ ws.length = 129 ∧ ∀ v ∈ ws, v.oneCell' = true := ⟨_, rfl, wrF_len _, wrF_one _⟩
      have hD : D.Q.getD j wr0 = q := by rw [List.getD_eq_getElem?_getD, hq]; rfl
      have HKN : Hid (keptN D.Q K (j + 1) = if K.getD j false then keptN D.Q K j ++ [q] else keptN D.Q K j) := Lib.hid (by rw [← hD]; rfl)
      rw [hws] at hrw
      have HWS := Lib.hid hws
      obtain ⟨kb, ko, hkA, hkc⟩ := HK.out (fun e => by rw [e] at hjk; exact absurd hjk (Nat.not_lt_zero _))
      obtain ⟨x, hx⟩ : ∃ x, K[j]? = some x := ⟨_, List.getElem?_eq_getElem hjk⟩
      have hkx : K.getD j false = x := by rw [List.getD_eq_getElem?_getD, hx]; rfl
      have hck := hkc j x hx 0 (by decide)
      rw [Nat.mul_one, Nat.add_zero] at hck
      have hck5 : wr.cell? ⟨kb, ko + j, none⟩ = some (.bool x) := (HBr.out.cell (p := ⟨kb, ko + j, none⟩) (World.block_lt_of_cell? w _ hck)).trans hck
      rw [hkx] at HKN
      subst hkA
      have hji : (j : Int) < (K.length : Int) := by omega
      have hjq : (j : Int) < (D.Q.length : Int) := by omega
      clear hrd hbl hrow hq hws hD hkc hck hx hkx hx1
      cases x with
      | false =>
        rw [if_neg (by simp)] at HKN
        go_wp2
        refine ⟨⟨j + 1, by omega, by go_num, Lib.hid ?_, HB⟩, by simp [intOf]; omega⟩
        rw [HKN.out]; exact HO5.out
      | true =>
        rw [if_pos rfl] at HKN
        have hba := (Below.refl wr.heap.size wr).alloc (Nat.le_refl _) (.cells ws.toArray 63)
        have HOA := Lib.hid (own_below HO5.out hba)
        have HRD := Lib.hid (rd_row (k := 129) (new_heap wr (.cells ws.toArray 63 (0, 0))) hwl 1)
        have HBA := Lib.hid (HB.out.trans (hba.mono hszr))
        clear hba
        go_wp2_with (first
          | (refine wpList_load_mid rfl 63 (.tmp 28) rfl b (o + j * 129) rfl ws _ hrw Try.underlying63 rfl (by rw [hwl]; kernel_rfl) ?_)
          | (refine wpList_buildSlice rfl 41 (.tmp 29) rfl 63 (wrF wr0).toArray ws 129 136 Try.underlying41 info_rwr3 rfl (by simp [wrF_len]) hwl (by decide) (by decide) ?_)
          | (at_builtin; refine wpList_append_rd _ rfl _ _ 41 rfl w1.heap.size 63 (.agg (wrF wr0).toArray) 129 136 Try.underlying41 info_rwr3 (by simp [Value.cells, wrF_len]) (by decide) _ _ _ rfl HOA.out _ 1 ws rfl HRD.out hwo ?c2 (by decide) ?c3 ?_; (case c2 => omega); (case c3 => simp; omega); intro v' w5 hown1 hbel1 hg1; have HO1 := Lib.hid hown1; have HBB := Lib.hid (HBA.out.trans hbel1); clear hown1 hbel1 hg1))
        refine ⟨⟨j + 1, by omega, by go_num, Lib.hid ?_, HBB⟩, by simp [intOf]; omega⟩
        rw [HKN.out, List.length_append, rowsOf_snoc, HWS.out]
        exact HO1.out
    · have hst : keptN D.Q K D.Q.length = keptN D.Q K j := by
        by_cases hlt : j < D.Q.length
        · have := keptN_stop (Q := D.Q) (K := K) (j := j) (by omega) (D.Q.length - j)
          rwa [show j + (D.Q.length - j) = D.Q.length by omega] at this
        · obtain rfl : j = D.Q.length := by omega
          rfl
      have hC : crashD D K = { S := layS D.S (keptN D.Q K j), Q := [], dead := false, arm := -1, deeds := D.deeds, cap := D.cap } := by unfold crashD; rw [hst]
      have HC := Lib.hid hC
      have hmem := keptN_mem (Q := D.Q) (K := K) hj
      obtain ⟨L, hL⟩ : ∃ L, keptN D.Q K j = L := ⟨_, rfl⟩
      rw [hL] at HO5 hkle hmem HC ⊢
      have hrC := HR.out.below HBr.out
      have HLY := Lib.hid (rlay3_any (G := fun _ => False) (L := L) (vl := .slice sk L.length ck) hrC (own_rows wrF_len HO5.out rfl (fun _ _ h => h)) (by omega) hS1 hS (fun q hq => HO.out.at_ q (hmem q hq)))
      unfold RLayTo rdV at HLY
      clear hx1 hst hC hL hmem hrC
      have hor : ∀ {G : Prop}, ((j : Int) < (D.Q.length : Int) → ¬ (j : Int) < (K.length : Int) → G) → (¬ (j : Int) < (D.Q.length : Int) → G) → G := fun h1 h2 => by
        by_cases h : (j : Int) < (D.Q.length : Int)
        · exact h1 h (by omega)
        · exact h2 h
      refine hor (fun hj1 hj2 => ?_) (fun hj1 => ?_)
      all_goals
        clear hor hgo
        go_upto_region 8 with (first
          | (go_at_call 42; go_must (refine HLY.out.mono ?_; rintro e wE ⟨vS', rfl, hoE, hbE⟩; obtain ⟨sS, cS, rfl⟩ := own_slice1 hoE; have hxA := old_heap HX1r.out hbE; have hxB := old_heap HX2r.out hbE; clear k0 k1 k2 k3 k4; have k0 : wE.cell? ⟨w.heap.size, 0, none⟩ = some (.slice A D.S.length c) := cell_row hxA 0; have k1 : wE.cell? ⟨w.heap.size, 1, none⟩ = some (.slice A2 D.Q.length c2) := cell_row hxA 1; have k2 : wE.cell? ⟨w.heap.size, 2, none⟩ = some (.bool D.dead) := cell_row hxA 2; have k3 : wE.cell? ⟨w.heap.size, 3, none⟩ = some (.int .i64 D.arm) := cell_row hxA 3; have k4 : wE.cell? ⟨w.heap.size, 4, none⟩ = some (.int .i64 D.deeds) := cell_row hxA 4; have j0 := free_row hxA 0; have j1 := free_row hxA 1; have j2 := free_row hxA 2; have j3 := free_row hxA 3; have j4 := free_row hxA 4; have HOE := Lib.hid hoE; have HXA := Lib.hid hxA; have HXE := Lib.hid hxB; have HBE := Lib.hid (bnext HBr.out hbE); clear hoE hxA hxB hbE)))
        rw [← set5]
        have hy1 := set5_heap (a' := .slice sS D.S.length cS) (b' := .slice none 0 0) (c' := .bool D.dead) (d' := .int .i64 D.arm) (e' := .int .i64 D.deeds) HXA.out
        have hy2 := (set5_far (g := w.heap.size) (w := wE) (a := .slice sS D.S.length cS) (b := .slice none 0 0) (c := .bool D.dead) (d := .int .i64 D.arm) (e := .int .i64 D.deeds) (k := w.heap.size + 1) (by omega)).trans HXE.out
        have hbC := set5_below (a := .slice sS D.S.length cS) (b := .slice none 0 0) (c := .bool D.dead) (d := .int .i64 D.arm) (e := .int .i64 D.deeds) HBE.out (Nat.le_refl w.heap.size)
        have hoC := own_move (w' := set5 wE w.heap.size (.slice sS D.S.length cS) (.slice none 0 0) (.bool D.dead) (.int .i64 D.arm) (.int .i64 D.deeds)) HOE.out (fun k hk => set5_far (by have := (HOE.out.lt k hk).1; omega))
        clear k0 k1 k2 k3 k4 j0 j1 j2 j3 j4 HXA HXE HBE HOE
        revert hy1 hy2 hbC hoC
        generalize set5 wE w.heap.size (.slice sS D.S.length cS) (.slice none 0 0) (.bool D.dead) (.int .i64 D.arm) (.int .i64 D.deeds) = wC
        intro hy1 hy2 hbC hoC
        have hszC : w.heap.size + 1 < wC.heap.size := (Array.getElem?_eq_some_iff.1 hy2).1
        have h8 := head_set (head_set hy1 2 (.bool false)) 3 (.int .i64 (-1))
        have h82 := (Below.heap_setCell (wC.setCell ⟨w.heap.size, 2, none⟩ (.bool false)) ⟨w.heap.size, 3, none⟩ (.int .i64 (-1)) (w.heap.size + 1) (by show w.heap.size + 1 ≠ w.heap.size; omega)).trans ((Below.heap_setCell wC ⟨w.heap.size, 2, none⟩ (.bool false) (w.heap.size + 1) (by show w.heap.size + 1 ≠ w.heap.size; omega)).trans hy2)
        have hb8 := (hbC.setCell (p := ⟨w.heap.size, 2, none⟩) (Nat.le_refl _) (.bool false)).setCell (p := ⟨w.heap.size, 3, none⟩) (Nat.le_refl _) (.int .i64 (-1))
        have ho8 := own_move (own_move (w' := wC.setCell ⟨w.heap.size, 2, none⟩ (.bool false)) hoC (fun k hk => Below.heap_setCell _ _ _ _ (by have := (hoC.lt k hk).1; show k ≠ w.heap.size; omega))) (w' := (wC.setCell ⟨w.heap.size, 2, none⟩ (.bool false)).setCell ⟨w.heap.size, 3, none⟩ (.int .i64 (-1))) (fun k hk => Below.heap_setCell _ _ _ _ (by have := (hoC.lt k hk).1; show k ≠ w.heap.size; omega))
        have k0 : wC.cell? ⟨w.heap.size, 0, none⟩ = some (.slice sS D.S.length cS) := cell_row hy1 0; have k1 : wC.cell? ⟨w.heap.size, 1, none⟩ = some (.slice none 0 0) := cell_row hy1 1; have k2 : wC.cell? ⟨w.heap.size, 2, none⟩ = some (.bool D.dead) := cell_row hy1 2; have k3 : wC.cell? ⟨w.heap.size, 3, none⟩ = some (.int .i64 D.arm) := cell_row hy1 3; have k4 : wC.cell? ⟨w.heap.size, 4, none⟩ = some (.int .i64 D.deeds) := cell_row hy1 4
        have j0 := free_row hy1 0; have j1 := free_row hy1 1; have j2 := free_row hy1 2; have j3 := free_row hy1 3; have j4 := free_row hy1 4
        have H8 := Lib.hid h8
        have H82 := Lib.hid h82
        have HB8 := Lib.hid hb8
        have HO8 := Lib.hid ho8
        clear hy1 hy2 hbC hoC h8 h82 hb8 ho8
        go_upto_region 10 with fail
        revert H8 H82 HB8 HO8
        generalize (wC.setCell ⟨w.heap.size, 2, none⟩ (.bool false)).setCell ⟨w.heap.size, 3, none⟩ (.int .i64 (-1)) = w8
        intro H8 H82 HB8 HO8
        clear k0 k1 k2 k3 k4 j0 j1 j2 j3 j4
        have h8 : w8.heap[w.heap.size]? = some (.cells #[.slice sS D.S.length cS, .slice none 0 0, .bool false, .int .i64 (-1), .int .i64 D.deeds] 43 (0, 0)) := by
          have := H8.out
          simpa using this
        have h82 := H82.out
        have hsz8 : w.heap.size + 1 < w8.heap.size := (Array.getElem?_eq_some_iff.1 h82).1
        have k0 : w8.cell? ⟨w.heap.size, 0, none⟩ = some (.slice sS D.S.length cS) := cell_row h8 0; have k1 : w8.cell? ⟨w.heap.size, 1, none⟩ = some (.slice none 0 0) := cell_row h8 1; have k2 : w8.cell? ⟨w.heap.size, 2, none⟩ = some (.bool false) := cell_row h8 2; have k3 : w8.cell? ⟨w.heap.size, 3, none⟩ = some (.int .i64 (-1)) := cell_row h8 3; have k4 : w8.cell? ⟨w.heap.size, 4, none⟩ = some (.int .i64 D.deeds) := cell_row h8 4
        have n0 : w8.cell? ⟨w.heap.size + 1, 0, none⟩ = some (.slice none 0 0) := cell_row h82 0; have n1 : w8.cell? ⟨w.heap.size + 1, 1, none⟩ = some (.slice none 0 0) := cell_row h82 1; have n2 : w8.cell? ⟨w.heap.size + 1, 2, none⟩ = some (.bool false) := cell_row h82 2; have n3 : w8.cell? ⟨w.heap.size + 1, 3, none⟩ = some (.int .i64 0) := cell_row h82 3; have n4 : w8.cell? ⟨w.heap.size + 1, 4, none⟩ = some (.int .i64 0) := cell_row h82 4
        have m0 := free_row h82 0; have m1 := free_row h82 1; have m2 := free_row h82 2; have m3 := free_row h82 3; have m4 := free_row h82 4
        clear h8 h82 H8
        go_wp2
        rw [← set5]
        have h5 := set5_heap (a' := .slice sS D.S.length cS) (b' := .slice none 0 0) (c' := .bool false) (d' := .int .i64 (-1)) (e' := .int .i64 D.deeds) H82.out
        have hbF := set5_below (a := .slice sS D.S.length cS) (b := .slice none 0 0) (c := .bool false) (d := .int .i64 (-1)) (e := .int .i64 D.deeds) HB8.out (show w.heap.size ≤ w.heap.size + 1 by omega)
        refine bodyPost_ret (results_cell1 Try.results34 rfl (load_rdisk h5)) rfl ⟨_, _, by rw [HC.out]; rfl, ?_, hbF⟩
        rw [HC.out]
        refine ⟨own_rows (T := 30) (base := wr.heap.size) (n := D.S.length) scF_len ?_ (layS_len _ _).symm (fun b hb hf => by have := hF b hf; omega), RowsAt.nil⟩
        exact own_move HO8.out (fun k hk => set5_far (by have := (HO8.out.lt k hk).1; omega))
end Go.Proofs.Ytiehfaiadhhndaa
