/-
  Disk: the reference's Flush.
-/
import Derived.Test.YtiehfaiadhhndaaDskT
namespace Go.Proofs.Ytiehfaiadhhndaa
open Go.RowKit
set_option linter.unusedVariables false
set_option linter.unusedSimpArgs false
set_option linter.unnecessarySimpa false
theorem two_boxes (w : World) (a b c d e : Value) : ∃ w1, (w.alloc (.cells #[a, b, c, d, e] 43)).alloc (.cells #[.slice none 0 0, .slice none 0 0, .bool false, .int .i64 0, .int .i64 0] 43) = w1 ∧ Below w.heap.size w w1 ∧
    w1.heap[w.heap.size]? = some (.cells #[a, b, c, d, e] 43 (0, 0)) ∧ w1.heap[w.heap.size + 1]? = some (.cells #[.slice none 0 0, .slice none 0 0, .bool false, .int .i64 0, .int .i64 0] 43 (0, 0)) ∧ w1.heap.size = w.heap.size + 2 := by
  refine ⟨_, rfl, ((Below.refl w.heap.size w).alloc (Nat.le_refl _) _).alloc (by simp) _, old_heap (new_heap w _) ((Below.refl _ _).alloc (Nat.le_refl _) _), ?_, by simp⟩
  have := new_heap (w.alloc (.cells #[a, b, c, d, e] 43)) (.cells #[.slice none 0 0, .slice none 0 0, .bool false, .int .i64 0, .int .i64 0] 43 (0, 0))
  rw [World.size_alloc] at this
  exact this
set_option maxRecDepth 100000 in
set_option maxHeartbeats 8000000 in
theorem rflush3_any {w : World} {F : Nat → Prop} {vS vQ : Value} {D : Dk} {m : Nat} (h : RefAt w F vS vQ D) (hF : ∀ k, F k → k < w.heap.size) (hm : m ≤ 1000) (ho : DOk D m) (hS1 : 1 ≤ D.S.length) (hS : D.S.length ≤ 65536) :
    Calls Try.prog 32 #[rdV D vS vQ] w (RPutTo w F (flushD D).1 (flushD D).2) := by
  have HR := Lib.hid h
  obtain ⟨A, c, rfl, _⟩ := h.secs
  obtain ⟨A2, c2, rfl, _⟩ := h.que
  clear h
  unfold rdV
  obtain ⟨w1, hw1, hb1, hx1, hx2, hsz1⟩ := two_boxes w (.slice A D.S.length c) (.slice A2 D.Q.length c2) (.bool D.dead) (.int .i64 D.arm) (.int .i64 D.deeds)
  have HX1 := Lib.hid hx1
  have HX2 := Lib.hid hx2
  have HB1 := Lib.hid hb1
  have HW1 := Lib.hid hw1
  have HDE := Lib.hid (rdeed3_any (w := w1) (HR.out.below hb1) ho.arm ⟨ho.deeds.1, by have := ho.deeds.2; omega⟩)
  unfold RefTo rdV at HDE
  have k0 : w1.cell? ⟨w.heap.size, 0, none⟩ = some (.slice A D.S.length c) := cell_row hx1 0; have k1 : w1.cell? ⟨w.heap.size, 1, none⟩ = some (.slice A2 D.Q.length c2) := cell_row hx1 1; have k2 : w1.cell? ⟨w.heap.size, 2, none⟩ = some (.bool D.dead) := cell_row hx1 2; have k3 : w1.cell? ⟨w.heap.size, 3, none⟩ = some (.int .i64 D.arm) := cell_row hx1 3; have k4 : w1.cell? ⟨w.heap.size, 4, none⟩ = some (.int .i64 D.deeds) := cell_row hx1 4
  have n0 : w1.cell? ⟨w.heap.size + 1, 0, none⟩ = some (.slice none 0 0) := cell_row hx2 0; have n1 : w1.cell? ⟨w.heap.size + 1, 1, none⟩ = some (.slice none 0 0) := cell_row hx2 1; have n2 : w1.cell? ⟨w.heap.size + 1, 2, none⟩ = some (.bool false) := cell_row hx2 2; have n3 : w1.cell? ⟨w.heap.size + 1, 3, none⟩ = some (.int .i64 0) := cell_row hx2 3; have n4 : w1.cell? ⟨w.heap.size + 1, 4, none⟩ = some (.int .i64 0) := cell_row hx2 4
  have j0 := free_row hx1 0; have j1 := free_row hx1 1; have j2 := free_row hx1 2; have j3 := free_row hx1 3; have j4 := free_row hx1 4
  have m0 := free_row hx2 0; have m1 := free_row hx2 1; have m2 := free_row hx2 2; have m3 := free_row hx2 3; have m4 := free_row hx2 4
  clear hw1 hb1 hx1 hx2
  cases hd : D.dead with
  | true =>
    have hW : flushD D = (D, 20) := by unfold flushD; rw [if_pos hd]
    rw [hW]
    have HD := Lib.hid hd
    rw [hd] at k2 HX1 HW1
    clear hd
    go_enter Try.func32, Try.ntmps32
    go_upto_region 1 with fail
    rw [HW1.out]
    go_wp2
    rw [← set5]
    have h5 := set5_heap (a' := .slice A D.S.length c) (b' := .slice A2 D.Q.length c2) (c' := .bool true) (d' := .int .i64 D.arm) (e' := .int .i64 D.deeds) HX2.out
    have hbF := set5_below (a := .slice A D.S.length c) (b := .slice A2 D.Q.length c2) (c := .bool true) (d := .int .i64 D.arm) (e := .int .i64 D.deeds) HB1.out (show w.heap.size ≤ w.heap.size + 1 by omega)
    exact bodyPost_ret (results_cell2 Try.results32 rfl rfl (load_rdisk h5)) rfl ⟨_, _, by unfold rdV; rw [HD.out]; rfl, HR.out.below hbF, hbF⟩
  | false =>
    have HD := Lib.hid hd
    rw [hd] at k2 HX1 HW1
    clear hd
    by_cases ha : D.arm = 0
    · have hW : flushD D = deedD D := by unfold flushD; rw [if_neg (by rw [HD.out]; simp), if_pos ha]
      have hA : deedD D = ({ D with dead := true }, 20) := by unfold deedD; rw [if_pos ha]
      rw [hW]
      rw [hA] at HDE ⊢
      dsimp only at HDE ⊢
      rw [HD.out] at HDE
      have HA := Lib.hid ha
      clear hW hA ha
      go_enter Try.func32, Try.ntmps32
      go_upto_region 1 with fail
      rw [HW1.out]
      go_wp2_with (first
        | (go_at_call 41; go_must (refine HDE.out.mono ?_; rintro e wA ⟨rfl, hbA⟩; have hxA := old_heap HX1.out hbA; have hxB := old_heap HX2.out hbA; clear k0 k1 k2 k3 k4 n0 n1 n2 n3 n4 j0 j1 j2 j3 j4 m0 m1 m2 m3 m4; have k0 : wA.cell? ⟨w.heap.size, 0, none⟩ = some (.slice A D.S.length c) := cell_row hxA 0; have k1 : wA.cell? ⟨w.heap.size, 1, none⟩ = some (.slice A2 D.Q.length c2) := cell_row hxA 1; have k2 : wA.cell? ⟨w.heap.size, 2, none⟩ = some (.bool false) := cell_row hxA 2; have k3 : wA.cell? ⟨w.heap.size, 3, none⟩ = some (.int .i64 D.arm) := cell_row hxA 3; have k4 : wA.cell? ⟨w.heap.size, 4, none⟩ = some (.int .i64 D.deeds) := cell_row hxA 4; have n0 : wA.cell? ⟨w.heap.size + 1, 0, none⟩ = some (.slice none 0 0) := cell_row hxB 0; have n1 : wA.cell? ⟨w.heap.size + 1, 1, none⟩ = some (.slice none 0 0) := cell_row hxB 1; have n2 : wA.cell? ⟨w.heap.size + 1, 2, none⟩ = some (.bool false) := cell_row hxB 2; have n3 : wA.cell? ⟨w.heap.size + 1, 3, none⟩ = some (.int .i64 0) := cell_row hxB 3; have n4 : wA.cell? ⟨w.heap.size + 1, 4, none⟩ = some (.int .i64 0) := cell_row hxB 4; have j0 := free_row hxA 0; have j1 := free_row hxA 1; have j2 := free_row hxA 2; have j3 := free_row hxA 3; have j4 := free_row hxA 4; have m0 := free_row hxB 0; have m1 := free_row hxB 1; have m2 := free_row hxB 2; have m3 := free_row hxB 3; have m4 := free_row hxB 4; have HXA := Lib.hid hxA; have HXB := Lib.hid hxB; have HBA := Lib.hid (bnext HB1.out hbA); clear hxA hxB hbA)))
      rw [← set5]
      have hy1 := set5_heap (a' := .slice A D.S.length c) (b' := .slice A2 D.Q.length c2) (c' := .bool true) (d' := .int .i64 D.arm) (e' := .int .i64 D.deeds) HXA.out
      have hy2 := (set5_far (g := w.heap.size) (w := wA) (a := .slice A D.S.length c) (b := .slice A2 D.Q.length c2) (c := .bool true) (d := .int .i64 D.arm) (e := .int .i64 D.deeds) (k := w.heap.size + 1) (by omega)).trans HXB.out
      have hbC := set5_below (a := .slice A D.S.length c) (b := .slice A2 D.Q.length c2) (c := .bool true) (d := .int .i64 D.arm) (e := .int .i64 D.deeds) HBA.out (Nat.le_refl w.heap.size)
      rw [← set5]
      have h5 := set5_heap (a' := .slice A D.S.length c) (b' := .slice A2 D.Q.length c2) (c' := .bool true) (d' := .int .i64 D.arm) (e' := .int .i64 D.deeds) hy2
      have hbF := set5_below (a := .slice A D.S.length c) (b := .slice A2 D.Q.length c2) (c := .bool true) (d := .int .i64 D.arm) (e := .int .i64 D.deeds) hbC (show w.heap.size ≤ w.heap.size + 1 by omega)
      have hr := HR.out.below hbF
      exact bodyPost_ret (results_cell2 Try.results32 rfl rfl (load_rdisk h5)) rfl ⟨_, _, rfl, ⟨hr.secs, hr.que⟩, hbF⟩
    · obtain ⟨D2, hD2⟩ : ∃ D2 : Dk, ({ D with arm := if 0 < D.arm then D.arm - 1 else D.arm, deeds := D.deeds + 1 } : Dk) = D2 := ⟨_, rfl⟩
      have hA : deedD D = (D2, 0) := by unfold deedD; rw [if_neg ha, ← hD2]
      have hW : flushD D = ({ D2 with S := layS D.S D.Q, Q := [] }, 0) := by unfold flushD; rw [if_neg (by rw [HD.out]; simp), if_neg ha, hA]
      have hSS : D2.S = D.S := by rw [← hD2]
      have hQQ : D2.Q = D.Q := by rw [← hD2]
      rw [hW]
      rw [hA] at HDE
      dsimp only at HDE ⊢
      rw [HD.out] at HDE
      have HSS := Lib.hid hSS
      have HQQ := Lib.hid hQQ
      clear hD2 hA hW hSS hQQ ha
      go_enter Try.func32, Try.ntmps32
      go_upto_region 1 with fail
      rw [HW1.out]
      go_upto_region 6 with (first
        | (go_at_call 41; go_must (refine HDE.out.mono ?_; rintro e wA ⟨rfl, hbA⟩; have hxA := old_heap HX1.out hbA; have hxB := old_heap HX2.out hbA; clear k0 k1 k2 k3 k4 n0 n1 n2 n3 n4 j0 j1 j2 j3 j4 m0 m1 m2 m3 m4; have k0 : wA.cell? ⟨w.heap.size, 0, none⟩ = some (.slice A D.S.length c) := cell_row hxA 0; have k1 : wA.cell? ⟨w.heap.size, 1, none⟩ = some (.slice A2 D.Q.length c2) := cell_row hxA 1; have k2 : wA.cell? ⟨w.heap.size, 2, none⟩ = some (.bool false) := cell_row hxA 2; have k3 : wA.cell? ⟨w.heap.size, 3, none⟩ = some (.int .i64 D.arm) := cell_row hxA 3; have k4 : wA.cell? ⟨w.heap.size, 4, none⟩ = some (.int .i64 D.deeds) := cell_row hxA 4; have n0 : wA.cell? ⟨w.heap.size + 1, 0, none⟩ = some (.slice none 0 0) := cell_row hxB 0; have n1 : wA.cell? ⟨w.heap.size + 1, 1, none⟩ = some (.slice none 0 0) := cell_row hxB 1; have n2 : wA.cell? ⟨w.heap.size + 1, 2, none⟩ = some (.bool false) := cell_row hxB 2; have n3 : wA.cell? ⟨w.heap.size + 1, 3, none⟩ = some (.int .i64 0) := cell_row hxB 3; have n4 : wA.cell? ⟨w.heap.size + 1, 4, none⟩ = some (.int .i64 0) := cell_row hxB 4; have j0 := free_row hxA 0; have j1 := free_row hxA 1; have j2 := free_row hxA 2; have j3 := free_row hxA 3; have j4 := free_row hxA 4; have m0 := free_row hxB 0; have m1 := free_row hxB 1; have m2 := free_row hxB 2; have m3 := free_row hxB 3; have m4 := free_row hxB 4; have HXA := Lib.hid hxA; have HXB := Lib.hid hxB; have HBA := Lib.hid (bnext HB1.out hbA); clear hxA hxB hbA)))
      rw [← set5]
      have hy1 := set5_heap (a' := .slice A D.S.length c) (b' := .slice A2 D.Q.length c2) (c' := .bool D2.dead) (d' := .int .i64 D2.arm) (e' := .int .i64 D2.deeds) HXA.out
      have hy2 := (set5_far (g := w.heap.size) (w := wA) (a := .slice A D.S.length c) (b := .slice A2 D.Q.length c2) (c := .bool D2.dead) (d := .int .i64 D2.arm) (e := .int .i64 D2.deeds) (k := w.heap.size + 1) (by omega)).trans HXB.out
      have hbC := set5_below (a := .slice A D.S.length c) (b := .slice A2 D.Q.length c2) (c := .bool D2.dead) (d := .int .i64 D2.arm) (e := .int .i64 D2.deeds) HBA.out (Nat.le_refl w.heap.size)
      clear k0 k1 k2 k3 k4 n0 n1 n2 n3 n4 j0 j1 j2 j3 j4 m0 m1 m2 m3 m4 HXA HXB HBA
      revert hy1 hy2 hbC
      generalize set5 wA w.heap.size (.slice A D.S.length c) (.slice A2 D.Q.length c2) (.bool D2.dead) (.int .i64 D2.arm) (.int .i64 D2.deeds) = wC
      intro hy1 hy2 hbC
      have hrC : RefAt wC F (.slice A D.S.length c) (.slice A2 D.Q.length c2) D2 := ⟨by rw [HSS.out]; exact (HR.out.below hbC).secs, by rw [HQQ.out]; exact (HR.out.below hbC).que⟩
      have HLY := Lib.hid (rlay3_any (G := F) (L := D.Q) (vl := .slice A2 D.Q.length c2) hrC (HR.out.below hbC).que (by have := ho.len; omega) (by rw [HSS.out]; exact hS1) (by rw [HSS.out]; exact hS) (by rw [HSS.out]; exact ho.at_))
      unfold RLayTo rdV at HLY
      rw [HSS.out] at HLY
      have hszC : w.heap.size + 1 < wC.heap.size := (Array.getElem?_eq_some_iff.1 hy2).1
      have k0 : wC.cell? ⟨w.heap.size, 0, none⟩ = some (.slice A D.S.length c) := cell_row hy1 0; have k1 : wC.cell? ⟨w.heap.size, 1, none⟩ = some (.slice A2 D.Q.length c2) := cell_row hy1 1; have k2 : wC.cell? ⟨w.heap.size, 2, none⟩ = some (.bool D2.dead) := cell_row hy1 2; have k3 : wC.cell? ⟨w.heap.size, 3, none⟩ = some (.int .i64 D2.arm) := cell_row hy1 3; have k4 : wC.cell? ⟨w.heap.size, 4, none⟩ = some (.int .i64 D2.deeds) := cell_row hy1 4
      have HY2 := Lib.hid hy2
      have HBC := Lib.hid hbC
      clear hy1 hy2 hbC hrC
      go_wp2_with (first
        | (go_at_call 42; go_must (refine HLY.out.mono ?_; rintro e wE ⟨vS', rfl, hoE, hbE⟩; obtain ⟨sS, cS, rfl⟩ := own_slice1 hoE; have hxB := old_heap HY2.out hbE; clear k0 k1 k2 k3 k4; have n0 : wE.cell? ⟨w.heap.size + 1, 0, none⟩ = some (.slice none 0 0) := cell_row hxB 0; have n1 : wE.cell? ⟨w.heap.size + 1, 1, none⟩ = some (.slice none 0 0) := cell_row hxB 1; have n2 : wE.cell? ⟨w.heap.size + 1, 2, none⟩ = some (.bool false) := cell_row hxB 2; have n3 : wE.cell? ⟨w.heap.size + 1, 3, none⟩ = some (.int .i64 0) := cell_row hxB 3; have n4 : wE.cell? ⟨w.heap.size + 1, 4, none⟩ = some (.int .i64 0) := cell_row hxB 4; have m0 := free_row hxB 0; have m1 := free_row hxB 1; have m2 := free_row hxB 2; have m3 := free_row hxB 3; have m4 := free_row hxB 4; have HOE := Lib.hid hoE; have HXE := Lib.hid hxB; have HBE := Lib.hid (bnext HBC.out hbE); clear hoE hxB hbE)))
      rw [← set5]
      have h5 := set5_heap (a' := .slice sS D.S.length cS) (b' := .slice none 0 0) (c' := .bool D2.dead) (d' := .int .i64 D2.arm) (e' := .int .i64 D2.deeds) HXE.out
      have hbF := set5_below (a := .slice sS D.S.length cS) (b := .slice none 0 0) (c := .bool D2.dead) (d := .int .i64 D2.arm) (e := .int .i64 D2.deeds) HBE.out (show w.heap.size ≤ w.heap.size + 1 by omega)
      refine bodyPost_ret (results_cell2 Try.results32 rfl rfl (load_rdisk h5)) rfl ⟨_, _, rfl, ⟨own_rows (T := 30) (base := wC.heap.size) (n := D.S.length) scF_len ?_ (layS_len _ _).symm (fun b hb hf => by have := hF b hf; omega), RowsAt.nil⟩, hbF⟩
      exact own_move HOE.out (fun k hk => set5_far (by have := (HOE.out.lt k hk).1; omega))
end Go.Proofs.Ytiehfaiadhhndaa
