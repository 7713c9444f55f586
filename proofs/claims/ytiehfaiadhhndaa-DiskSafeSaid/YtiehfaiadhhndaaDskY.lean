/-
  Disk: the law's Do: a write.
-/
import Derived.Test.YtiehfaiadhhndaaDskX
import Derived.Test.YtiehfaiadhhndaaReg
namespace Go.Proofs.Ytiehfaiadhhndaa
open Go.RowKit
set_option linter.unusedVariables false
set_option linter.unusedSimpArgs false
set_option linter.unnecessarySimpa false
def DoS (w3 : World) (b4 : Nat) (v : Array Value) (b5 : Nat) (a : Ac) (w' : World) : Prop := w'.cell? ⟨b4, 0, none⟩ = some (v[0]!) ∧ w'.cell? ⟨b4, 1, none⟩ = some (v[1]!) ∧ w'.cell? ⟨b4, 2, none⟩ = some (v[2]!) ∧ w'.cell? ⟨b4, 3, none⟩ = some (v[3]!) ∧ w'.cell? ⟨b4, 4, none⟩ = some (v[4]!) ∧
    w'.cell? ⟨b5, 1, none⟩ = some (.int .i64 a.at_) ∧ w'.cell? ⟨b5, 2, none⟩ = some a.vS ∧ Below w3.heap.size w3 w'
theorem DoS.of {w3 w' : World} {b4 b5 : Nat} {v : Array Value} {a : Ac} (h : DoS w3 b4 v b5 a w3) (hb : Below w3.heap.size w3 w') (h4 : b4 < w3.heap.size) (h5 : b5 < w3.heap.size) : DoS w3 b4 v b5 a w' :=
  ⟨(hb.cell (p := ⟨b4, 0, none⟩) h4).trans h.1, (hb.cell (p := ⟨b4, 1, none⟩) h4).trans h.2.1, (hb.cell (p := ⟨b4, 2, none⟩) h4).trans h.2.2.1, (hb.cell (p := ⟨b4, 3, none⟩) h4).trans h.2.2.2.1, (hb.cell (p := ⟨b4, 4, none⟩) h4).trans h.2.2.2.2.1,
    (hb.cell (p := ⟨b5, 1, none⟩) h5).trans h.2.2.2.2.2.1, (hb.cell (p := ⟨b5, 2, none⟩) h5).trans h.2.2.2.2.2.2.1, hb⟩
theorem RefAt.foot9 {w W : World} {F : Nat → Prop} {vS vQ : Value} {D : Dk} {g : Nat} (h : RefAt W F vS vQ D) (h0 : RefAt w F vS vQ D) (hg : w.heap.size ≤ g) : RefAt W (fun k => F k ∨ k = g) vS vQ D := by
  have key : ∀ {α : Type} {f : α → List Value} {k : Nat} {v : Value} {L : List α}, RowsAt w F f k v L → RowsAt W F f k v L → RowsAt W (fun k => F k ∨ k = g) f k v L := by
    intro α f k v L h1 h2
    obtain ⟨A, c, rfl, _, _, _, _, h5⟩ := h1
    obtain ⟨A', c', e1, e2, e3, e4, e5, e6⟩ := h2
    simp only [Value.slice.injEq, true_and] at e1
    obtain ⟨rfl, rfl⟩ := e1
    exact ⟨A, c, rfl, e2, e3, e4, e5, fun a ha => ⟨(e6 a ha).1, fun hf => by rcases hf with hf | hf; exact (e6 a ha).2 hf; have := (h5 a ha).1; omega⟩⟩
  exact ⟨key h0.secs h.secs, key h0.que h.que⟩
theorem bdrewL {w w' : World} (h : Below w.drew.heap.size w.drew w') : Below w.heap.size w w' := ⟨h.os, h.tape, h.output, h.size, h.block⟩
set_option maxRecDepth 100000 in
set_option maxHeartbeats 8000000 in
theorem ldo_write {X : Nat → Prop} {w0 w : World} {p gS m : Nat} {vq vS vQ : Value} {D : Dk} (h : DkAt w w0.heap.size p gS vq D) (hr : RefAt w (FtX X p gS vq) vS vQ D) (hX : ∀ k, X k → k < w.heap.size) (hm : m ≤ 900) (ho : DOk D m) (a : Ac) (ha : AcOk w0 a) (hb : Below w0.heap.size w0 w) (hk : a.kind = 0) :
    Calls Try.prog 19 #[.pointer (some ⟨p, 0, none⟩), rdV D vS vQ, .agg (acV a).toArray] w (DoTo X w0 w p gS vq (writeD D a.at_ (scFull a.S)).1) := by
  have HR := Lib.hid hr
  obtain ⟨A, c, rfl, _⟩ := hr.secs
  obtain ⟨A2, c2, rfl, _⟩ := hr.que
  have HB := Lib.hid hb
  have HFl := Lib.hid (Ft.lt h)
  have HO := Lib.hid ho
  unfold rdV acV
  rw [hk]
  obtain ⟨w1, hw1, hb1, hx4, hx5, hx6, hsz1⟩ := acts_boxes w (.slice A D.S.length c) (.slice A2 D.Q.length c2) (.bool D.dead) (.int .i64 D.arm) (.int .i64 D.deeds) (.int .i64 0) (.int .i64 a.at_) a.vS (.slice a.A a.K.length a.c)
  have HX4 := Lib.hid hx4
  have HX5 := Lib.hid hx5
  have HX6 := Lib.hid hx6
  have HB1 := Lib.hid hb1
  have HW1 := Lib.hid hw1
  have HAC := Lib.hid ha
  have HD1 := Lib.hid (h.below hb1)
  have HB01 := Lib.hid (hb.trans (hb1.mono hb.size))
  have HGF := Lib.hid (Ft.ge h)
  have hn4 : ¬ Ft p gS vq w.heap.size := fun e => by have := HFl.out _ e; omega
  have hn5 : ¬ Ft p gS vq (w.heap.size + 1) := fun e => by have := HFl.out _ e; omega
  have hn6 : ¬ Ft p gS vq (w.heap.size + 1 + 1) := fun e => by have := HFl.out _ e; omega
  have j0 : w1.cell? ⟨w.heap.size + 1, 0, none⟩ = some (.int .i64 0) := cell_row hx5 0; have j1 : w1.cell? ⟨w.heap.size + 1, 1, none⟩ = some (.int .i64 a.at_) := cell_row hx5 1; have j2 : w1.cell? ⟨w.heap.size + 1, 2, none⟩ = some (a.vS) := cell_row hx5 2; have j3 : w1.cell? ⟨w.heap.size + 1, 3, none⟩ = some (.slice a.A a.K.length a.c) := cell_row hx5 3
  have hlen : D.Q.length ≤ 1000 := by have := ho.len; omega
  have hdd : 0 ≤ D.deeds ∧ D.deeds ≤ 1000000 := ⟨ho.deeds.1, by have := ho.deeds.2; omega⟩
  clear h hr hb hw1 hb1 hx4 hx5 hx6 ha ho
  go_enter Try.func19, Try.ntmps19
  go_upto_region 1 with fail
  rw [HW1.out]
  go_upto_region 3 with fail
  refine wp_region_held_drew (S := (fun w' => w'.cell? ⟨w.heap.size + 1, 1, none⟩ = some (.int .i64 a.at_) ∧ w'.cell? ⟨w.heap.size + 1, 2, none⟩ = some a.vS)) (by kernel_rfl) (by exact ⟨j1, j2⟩) (fun hHeld => ?_)
  refine take1_ (i := 0) (v := ?_) (a' := ?_) (some 22) #[true, false, false, false, false, false, false, false] rfl rfl (by kernel_rfl) (fun _ _ _ h => h) (Or.inl ⟨by rfl, ?_⟩) hHeld ?_ ?_
  rotate_left
  · (intro w hSw; (try dsimp only at hSw); obtain ⟨s1, s2⟩ := hSw; go_simp; (try with_reducible rfl))
  rotate_left
  · simp only [Act.put, List.setIfInBounds_toArray, List.set_cons_zero, List.set_cons_succ]
    rfl
  refine take1_ (i := 1) (v := ?_) (a' := ?_) (some 23) #[true, true, false, false, false, false, false, false] rfl rfl (by kernel_rfl) (fun _ _ _ h => h) (Or.inl ⟨by rfl, ?_⟩) hHeld ?_ ?_
  rotate_left
  · (intro w hSw; (try dsimp only at hSw); obtain ⟨s1, s2⟩ := hSw; go_simp; (try with_reducible rfl))
  rotate_left
  · simp only [Act.put, List.setIfInBounds_toArray, List.set_cons_zero, List.set_cons_succ]
    rfl
  refine take1_ (i := 2) (v := ?_) (a' := ?_) (some 24) #[true, true, true, false, false, false, false, false] rfl rfl (by kernel_rfl) (fun _ _ _ h => h) (Or.inl ⟨by rfl, ?_⟩) hHeld ?_ ?_
  rotate_left
  · (intro w hSw; (try dsimp only at hSw); obtain ⟨s1, s2⟩ := hSw; go_simp; (try with_reducible rfl))
  rotate_left
  · simp only [Act.put, List.setIfInBounds_toArray, List.set_cons_zero, List.set_cons_succ]
    rfl
  refine take1_ (i := 3) (v := ?_) (a' := ?_) (some 25) #[true, true, true, true, false, false, false, false] rfl rfl (by kernel_rfl) (fun _ _ _ h => h) (Or.inl ⟨by rfl, ?_⟩) hHeld ?_ ?_
  rotate_left
  · (intro w hSw; (try dsimp only at hSw); obtain ⟨s1, s2⟩ := hSw; go_simp; (try with_reducible rfl))
  rotate_left
  · simp only [Act.put, List.setIfInBounds_toArray, List.set_cons_zero, List.set_cons_succ]
    rfl
  refine take1_ (i := 4) (v := ?_) (a' := ?_) (some 26) #[true, true, true, true, true, false, false, false] rfl rfl (by kernel_rfl) (fun _ _ _ h => h) (Or.inl ⟨by rfl, ?_⟩) hHeld ?_ ?_
  rotate_left
  · (intro w hSw; (try dsimp only at hSw); obtain ⟨s1, s2⟩ := hSw; go_simp; (try with_reducible rfl))
  rotate_left
  · simp only [Act.put, List.setIfInBounds_toArray, List.set_cons_zero, List.set_cons_succ]
    rfl
  refine loud1_ (i := 5) (some 27) #[true, true, true, true, true, true, false, false] rfl rfl (by kernel_rfl) (fun K hK => ?_)
  go_simp
  (go_at_call 21; refine (full_any' a.vS a.S _ HAC.out.sl (HAC.out.below (HB01.out.drew)).s).mono ?_; rintro e w2 ⟨rfl, hb2⟩; have hD2 := HD1.out.below (bdrewL hb2); have HD2 := Lib.hid hD2; have HB2 := Lib.hid (bdrewL hb2); have hx5 := old_heap HX5.out (bdrewL hb2); have HX52 := Lib.hid hx5; have hS2 : w2.cell? ⟨w.heap.size + 1, 1, none⟩ = some (.int .i64 a.at_) ∧ w2.cell? ⟨w.heap.size + 1, 2, none⟩ = some a.vS := ⟨cell_row hx5 1, cell_row hx5 2⟩; clear hD2 hx5 hb2)
  refine hK.out _ _ (by (first | exact hS2 | exact hS3)) (fun hHeld' => ?_)
  clear hK K hHeld
  have hHeld := hHeld'
  clear hHeld'
  try simp only [Act.put, List.setIfInBounds_toArray, List.set_cons_zero, List.set_cons_succ]
  refine loud1_ (i := 6) (some 28) #[true, true, true, true, true, true, true, false] rfl rfl (by kernel_rfl) (fun K hK => ?_)
  go_simp
  (have HWR := Lib.hid (dwrite_any a.at_ (scFull a.S) HD2.out hlen HO.out.arm hdd); go_at_call 15; refine HWR.out.mono ?_; rintro e w3 ⟨rfl, vq2, hd3, hk3, hn3⟩; have HD3 := Lib.hid hd3; have HK3 := Lib.hid hk3; have HN3 := Lib.hid hn3; have hx5 := hk3.heap HX52.out hn5; have hS3 : w3.cell? ⟨w.heap.size + 1, 1, none⟩ = some (.int .i64 a.at_) ∧ w3.cell? ⟨w.heap.size + 1, 2, none⟩ = some a.vS := ⟨cell_row hx5 1, cell_row hx5 2⟩; clear hd3 hk3 hn3 hx5 HWR)
  refine hK.out _ _ (by (first | exact hS2 | exact hS3)) (fun hHeld' => ?_)
  clear hK K hHeld
  have hHeld := hHeld'
  clear hHeld'
  try simp only [Act.put, List.setIfInBounds_toArray, List.set_cons_zero, List.set_cons_succ]
  refine loud1_ (i := 7) (some 8) #[true, true, true, true, true, true, true, true] rfl rfl (by kernel_rfl) (fun K hK => ?_)
  go_simp
  skip
  refine hK.out _ _ (by (first | exact hS2 | exact hS3)) (fun hHeld' => ?_)
  clear hK K hHeld
  have hHeld := hHeld'
  clear hHeld'
  try simp only [Act.put, List.setIfInBounds_toArray, List.set_cons_zero, List.set_cons_succ]
  refine wpAnyH_done (by kernel_rfl) ?_ _
  have hz3 : w1.heap.size ≤ w3.heap.size := Nat.le_trans HB2.out.size HK3.out.size
  have hx43 := HK3.out.heap (old_heap HX4.out HB2.out) hn4
  have hx53 := HK3.out.heap (old_heap HX5.out HB2.out) hn5
  have HX63 := Lib.hid (HK3.out.heap (old_heap HX6.out HB2.out) hn6)
  have hK13 : Keep (Ft p gS vq) w1 w3 := (Keep.of_below HB2.out).trans HK3.out
  have HK13 := Lib.hid ((Keep.of_below HB1.out).trans hK13)
  have HR3 := Lib.hid (HR.out.fx2 (vq' := vq2) hK13 (fun k hk => by rcases HN3.out k hk with e | e; exact .inl e; exact .inr (Nat.le_trans HB2.out.size e)) HB1.out)
  have HB03 := Lib.hid (HB01.out.trans (hK13.below (fun k e => HGF.out k e) HB01.out.size))
  have hF3 : ∀ k, Fx X p gS vq2 w w1 k → k < w3.heap.size := Fx.lt HD3.out hX (by omega) hz3
  have HF3 := Lib.hid hF3
  have k0 : w3.cell? ⟨w.heap.size, 0, none⟩ = some (.slice A D.S.length c) := cell_row hx43 0; have k1 : w3.cell? ⟨w.heap.size, 1, none⟩ = some (.slice A2 D.Q.length c2) := cell_row hx43 1; have k2 : w3.cell? ⟨w.heap.size, 2, none⟩ = some (.bool D.dead) := cell_row hx43 2; have k3 : w3.cell? ⟨w.heap.size, 3, none⟩ = some (.int .i64 D.arm) := cell_row hx43 3; have k4 : w3.cell? ⟨w.heap.size, 4, none⟩ = some (.int .i64 D.deeds) := cell_row hx43 4
  have s1 : w3.cell? ⟨w.heap.size + 1, 1, none⟩ = some (.int .i64 a.at_) := cell_row hx53 1
  have s2 : w3.cell? ⟨w.heap.size + 1, 2, none⟩ = some a.vS := cell_row hx53 2
  have HS := Lib.hid (show DoS w3 w.heap.size #[.slice A D.S.length c, .slice A2 D.Q.length c2, .bool D.dead, .int .i64 D.arm, .int .i64 D.deeds] (w.heap.size + 1) a w3 from ⟨k0, k1, k2, k3, k4, s1, s2, Below.refl _ _⟩)
  have hb4 : w.heap.size < w3.heap.size := by omega
  have hb5 : w.heap.size + 1 < w3.heap.size := by omega
  have HPUT := fun (W : World) (F : Nat → Prop) (h : RefAt W F (.slice A D.S.length c) (.slice A2 D.Q.length c2) D) (hF : ∀ k, F k → k < W.heap.size) => Lib.hid (rput3_any a.at_ (scFull a.S) h hF hlen HO.out.arm hdd)
  unfold RPutTo rdV at HPUT
  have HE2 := Lib.hid (rfl : (writeD D a.at_ (scFull a.S)).2 = (writeD D a.at_ (scFull a.S)).2)
  clear hx43 hx53 hK13 hF3 k0 k1 k2 k3 k4 s1 s2 j0 j1 j2 j3 HX4 HX5 HX6 HX52 HW1 HD2 hS2 hS3
  go_upto_region 4 with fail
  refine wp_region_F (S := (DoS w3 w.heap.size #[.slice A D.S.length c, .slice A2 D.Q.length c2, .bool D.dead, .int .i64 D.arm, .int .i64 D.deeds] (w.heap.size + 1) a)) 12 (by kernel_rfl) (by exact HS.out.of HS.out.2.2.2.2.2.2.2.drew hb4 hb5) (fun hHeld => ?_)
  refine take1F (i := 0) (v := ?_) (a' := ?_) (some 30) #[true, false, false, false, false, false, false, false, false, false, false, false, false] rfl rfl (by kernel_rfl) (fun _ _ _ h => h) (Or.inl ⟨by rfl, ?_⟩) hHeld ?_ ?_
  rotate_left
  · (intro w hSw; (try dsimp only at hSw); obtain ⟨s1, s2, s3, s4, s5, s6, s7, s8⟩ := hSw; go_simp; (try with_reducible rfl))
  rotate_left
  · simp only [Act.put, List.setIfInBounds_toArray, List.set_cons_zero, List.set_cons_succ]
    rfl
  refine take1F (i := 1) (v := ?_) (a' := ?_) (some 31) #[true, true, false, false, false, false, false, false, false, false, false, false, false] rfl rfl (by kernel_rfl) (fun _ _ _ h => h) (Or.inl ⟨by rfl, ?_⟩) hHeld ?_ ?_
  rotate_left
  · (intro w hSw; (try dsimp only at hSw); obtain ⟨s1, s2, s3, s4, s5, s6, s7, s8⟩ := hSw; go_simp; (try with_reducible rfl))
  rotate_left
  · simp only [Act.put, List.setIfInBounds_toArray, List.set_cons_zero, List.set_cons_succ]
    rfl
  refine take1F (i := 2) (v := ?_) (a' := ?_) (some 32) #[true, true, true, false, false, false, false, false, false, false, false, false, false] rfl rfl (by kernel_rfl) (fun _ _ _ h => h) (Or.inl ⟨by rfl, ?_⟩) hHeld ?_ ?_
  rotate_left
  · (intro w hSw; (try dsimp only at hSw); obtain ⟨s1, s2, s3, s4, s5, s6, s7, s8⟩ := hSw; go_simp; (try with_reducible rfl))
  rotate_left
  · simp only [Act.put, List.setIfInBounds_toArray, List.set_cons_zero, List.set_cons_succ]
    rfl
  refine take1F (i := 3) (v := ?_) (a' := ?_) (some 33) #[true, true, true, true, false, false, false, false, false, false, false, false, false] rfl rfl (by kernel_rfl) (fun _ _ _ h => h) (Or.inl ⟨by rfl, ?_⟩) hHeld ?_ ?_
  rotate_left
  · (intro w hSw; (try dsimp only at hSw); obtain ⟨s1, s2, s3, s4, s5, s6, s7, s8⟩ := hSw; go_simp; (try with_reducible rfl))
  rotate_left
  · simp only [Act.put, List.setIfInBounds_toArray, List.set_cons_zero, List.set_cons_succ]
    rfl
  refine take1F (i := 4) (v := ?_) (a' := ?_) (some 34) #[true, true, true, true, true, false, false, false, false, false, false, false, false] rfl rfl (by kernel_rfl) (fun _ _ _ h => h) (Or.inl ⟨by rfl, ?_⟩) hHeld ?_ ?_
  rotate_left
  · (intro w hSw; (try dsimp only at hSw); obtain ⟨s1, s2, s3, s4, s5, s6, s7, s8⟩ := hSw; go_simp; (try with_reducible rfl))
  rotate_left
  · simp only [Act.put, List.setIfInBounds_toArray, List.set_cons_zero, List.set_cons_succ]
    rfl
  revert hHeld
  generalize w3.drew = w3d
  intro hHeld
  refine fork2F (i := 5) (j := 10) (some 35) (some 9) #[true, true, true, true, true, true, false, false, false, false, false, false, false] #[true, true, true, true, true, false, false, false, false, false, true, false, false] rfl rfl rfl rfl (by kernel_rfl) (fun K hK => ?_) (fun K hK => ?_)
  · go_simp
    go_at_call 21
    refine (full_any' a.vS a.S _ HAC.out.sl (HAC.out.below (HB03.out.trans (hHeld.2.2.2.2.2.2.2.mono HB03.out.size))).s).mono ?_
    rintro e wF ⟨rfl, hbF⟩
    have hnx := HS.out.of (hHeld.2.2.2.2.2.2.2.trans (hbF.mono hHeld.2.2.2.2.2.2.2.size)) hb4 hb5
    try (have H9' := Lib.hid (old_heap H9.out hbF); clear H9; have H9 := H9'; clear H9')
    clear hbF
    refine hK.out _ _ hnx (fun hHeld' => ?_)
    clear hK K hHeld hnx
    have hHeld := hHeld'
    clear hHeld'
    (try simp only [Act.put, List.setIfInBounds_toArray, List.set_cons_zero, List.set_cons_succ])
    refine fork2F (i := 6) (j := 10) (some 36) (some 9) #[true, true, true, true, true, true, true, false, false, false, false, false, false] #[true, true, true, true, true, true, false, false, false, false, true, false, false] rfl rfl rfl rfl (by kernel_rfl) (fun K hK => ?_) (fun K hK => ?_)
    · go_simp
      go_at_call 30
      have HRW := Lib.hid (HR3.out.below hHeld.2.2.2.2.2.2.2)
      refine (HPUT _ _ HRW.out (fun k hk => Nat.lt_of_lt_of_le (HF3.out k hk) hHeld.2.2.2.2.2.2.2.size)).out.mono ?_
      rintro e wP ⟨vS3, vQ3, rfl, hr3, hbP⟩
      have HP := Lib.hid hr3
      try (have H9' := Lib.hid (old_heap H9.out hbP); clear H9; have H9 := H9'; clear H9')
      obtain ⟨A8, c8, rfl, _⟩ := hr3.secs
      obtain ⟨A9, c9, rfl, _⟩ := hr3.que
      have hnx := HS.out.of (hHeld.2.2.2.2.2.2.2.trans (hbP.mono hHeld.2.2.2.2.2.2.2.size)) hb4 hb5
      clear hbP hr3 HRW
      refine hK.out _ _ hnx (fun hHeld' => ?_)
      clear hK K hHeld hnx
      have hHeld := hHeld'
      clear hHeld'
      (try simp only [Act.put, List.setIfInBounds_toArray, List.set_cons_zero, List.set_cons_succ])
      refine take1F (i := 7) (v := ?_) (a' := ?_) (some 29) #[true, true, true, true, true, true, true, true, false, false, false, false, false] rfl rfl (by kernel_rfl) (fun _ _ _ h => h) (Or.inl ⟨by rfl, ?_⟩) hHeld ?_ ?_
      rotate_left
      · (intro w hSw; (try dsimp only at hSw); go_simp; (try with_reducible rfl))
      rotate_left
      · simp only [Act.put, List.setIfInBounds_toArray, List.set_cons_zero, List.set_cons_succ]
        rfl
      refine take1F (i := 8) (v := ?_) (a' := ?_) (some 37) #[true, true, true, true, true, true, true, true, true, false, false, false, false] rfl rfl (by kernel_rfl) (fun _ _ _ h => h) (Or.inl ⟨by rfl, ?_⟩) hHeld ?_ ?_
      rotate_left
      · (intro w hSw; (try dsimp only at hSw); go_simp; (try with_reducible rfl))
      rotate_left
      · simp only [Act.put, List.setIfInBounds_toArray, List.set_cons_zero, List.set_cons_succ]
        rfl
      refine take1F (i := 9) (v := ?_) (a' := ?_) (some 38) #[true, true, true, true, true, true, true, true, true, true, false, false, false] rfl rfl (by kernel_rfl) (fun _ _ _ h => h) (Or.inl ⟨by rfl, ?_⟩) hHeld ?_ ?_
      rotate_left
      · (intro w hSw; (try dsimp only at hSw); go_simp; (try with_reducible rfl))
      rotate_left
      · simp only [Act.put, List.setIfInBounds_toArray, List.set_cons_zero, List.set_cons_succ]
        rfl
      refine loud1F (i := 10) (some 9) #[true, true, true, true, true, true, true, true, true, true, true, false, false] rfl rfl (by kernel_rfl) (fun K hK => ?_)
      go_simp
      have hbA := fun (W : World) => (Below.refl W.heap.size W).alloc (Nat.le_refl _) (.cells #[.slice none 0 0, .slice none 0 0, .bool false, .int .i64 0, .int .i64 0] 43)
      have hnx := HS.out.of (hHeld.2.2.2.2.2.2.2.trans ((hbA _).mono hHeld.2.2.2.2.2.2.2.size)) hb4 hb5
      have hg9 := hHeld.2.2.2.2.2.2.2.size
      have H9 := Lib.hid (new_heap wP (.cells #[.slice none 0 0, .slice none 0 0, .bool false, .int .i64 0, .int .i64 0] 43 (0, 0)))
      try (have HP' := Lib.hid (HP.out.foot (G := fun k => Fx X p gS vq2 w w1 k ∨ k = wP.heap.size) (fun b hb hf => by rcases hf with hf | hf; exact hf; exact absurd hb (by omega))); have HP2 := Lib.hid (HP'.out.below (hbA _)); clear HP HP')
      clear hbA
      revert hnx H9 hK hg9
      try revert HP2
      generalize wP.alloc (.cells #[.slice none 0 0, .slice none 0 0, .bool false, .int .i64 0, .int .i64 0] 43) = wG
      generalize wP.heap.size = g9
      intro HP2 hK hnx hg9 H9
      refine hK.out _ _ hnx (fun hHeld' => ?_)
      clear hK K hHeld hnx
      have hHeld := hHeld'
      clear hHeld'
      (try simp only [Act.put, List.setIfInBounds_toArray, List.set_cons_zero, List.set_cons_succ])
      refine loud1F (i := 11) (none) #[true, true, true, true, true, true, true, true, true, true, true, true, false] rfl rfl (by kernel_rfl) (fun K hK => ?_)
      have h9 := H9.out
      have n0 : wG.cell? ⟨g9, 0, none⟩ = some (.slice none 0 0) := cell_row h9 0; have n1 : wG.cell? ⟨g9, 1, none⟩ = some (.slice none 0 0) := cell_row h9 1; have n2 : wG.cell? ⟨g9, 2, none⟩ = some (.bool false) := cell_row h9 2; have n3 : wG.cell? ⟨g9, 3, none⟩ = some (.int .i64 0) := cell_row h9 3; have n4 : wG.cell? ⟨g9, 4, none⟩ = some (.int .i64 0) := cell_row h9 4
      have m0 := free_row h9 0; have m1 := free_row h9 1; have m2 := free_row h9 2; have m3 := free_row h9 3; have m4 := free_row h9 4
      go_simp
      rw [← set5]
      have hnx := HS.out.of (set5_below (a := .slice A8 (writeD D a.at_ (scFull a.S)).1.S.length c8) (b := .slice A9 (writeD D a.at_ (scFull a.S)).1.Q.length c9) (c := .bool (writeD D a.at_ (scFull a.S)).1.dead) (d := .int .i64 (writeD D a.at_ (scFull a.S)).1.arm) (e := .int .i64 (writeD D a.at_ (scFull a.S)).1.deeds) hHeld.2.2.2.2.2.2.2 hg9) hb4 hb5
      have HH9 := Lib.hid (set5_heap (a' := .slice A8 (writeD D a.at_ (scFull a.S)).1.S.length c8) (b' := .slice A9 (writeD D a.at_ (scFull a.S)).1.Q.length c9) (c' := .bool (writeD D a.at_ (scFull a.S)).1.dead) (d' := .int .i64 (writeD D a.at_ (scFull a.S)).1.arm) (e' := .int .i64 (writeD D a.at_ (scFull a.S)).1.deeds) h9)
      have HP3 := Lib.hid (HP2.out.keep (Keep.mono (tape_set5 (w := wG) (g := g9) (a := .slice A8 (writeD D a.at_ (scFull a.S)).1.S.length c8) (b := .slice A9 (writeD D a.at_ (scFull a.S)).1.Q.length c9) (c := .bool (writeD D a.at_ (scFull a.S)).1.dead) (d := .int .i64 (writeD D a.at_ (scFull a.S)).1.arm) (e := .int .i64 (writeD D a.at_ (scFull a.S)).1.deeds)) (fun k e => .inr e)))
      clear h9 n0 n1 n2 n3 n4 m0 m1 m2 m3 m4 H9 HP2
      revert HH9 HP3 hnx hK
      generalize set5 wG g9 (.slice A8 (writeD D a.at_ (scFull a.S)).1.S.length c8) (.slice A9 (writeD D a.at_ (scFull a.S)).1.Q.length c9) (.bool (writeD D a.at_ (scFull a.S)).1.dead) (.int .i64 (writeD D a.at_ (scFull a.S)).1.arm) (.int .i64 (writeD D a.at_ (scFull a.S)).1.deeds) = w9
      intro hK hnx HH9 HP3
      refine hK.out _ _ hnx (fun hHeld' => ?_)
      clear hK K hHeld hnx
      have hHeld := hHeld'
      clear hHeld'
      (try simp only [Act.put, List.setIfInBounds_toArray, List.set_cons_zero, List.set_cons_succ])
      refine last1F (some 10) #[true, true, true, true, true, true, true, true, true, true, true, true, true] rfl rfl (by kernel_rfl) (fun K hK => ?_)
      go_simp
      refine hK.out _ _ ?_
      clear hK K
      (try simp only [Act.put, List.setIfInBounds_toArray, List.set_cons_zero, List.set_cons_succ])
      refine wpAnyF_done (by kernel_rfl) ?_ _
      have HB9 := Lib.hid hHeld.2.2.2.2.2.2.2
      have h9 := HH9.out
      have n0 : w9.cell? ⟨g9, 0, none⟩ = some (.slice A8 (writeD D a.at_ (scFull a.S)).1.S.length c8) := cell_row h9 0; have n1 : w9.cell? ⟨g9, 1, none⟩ = some (.slice A9 (writeD D a.at_ (scFull a.S)).1.Q.length c9) := cell_row h9 1; have n2 : w9.cell? ⟨g9, 2, none⟩ = some (.bool (writeD D a.at_ (scFull a.S)).1.dead) := cell_row h9 2; have n3 : w9.cell? ⟨g9, 3, none⟩ = some (.int .i64 (writeD D a.at_ (scFull a.S)).1.arm) := cell_row h9 3; have n4 : w9.cell? ⟨g9, 4, none⟩ = some (.int .i64 (writeD D a.at_ (scFull a.S)).1.deeds) := cell_row h9 4
      have hx6 := old_heap HX63.out HB9.out
      have k0 : w9.cell? ⟨w.heap.size + 1 + 1, 0, none⟩ = some (.slice none 0 0) := cell_row hx6 0; have k1 : w9.cell? ⟨w.heap.size + 1 + 1, 1, none⟩ = some (.slice none 0 0) := cell_row hx6 1; have k2 : w9.cell? ⟨w.heap.size + 1 + 1, 2, none⟩ = some (.bool false) := cell_row hx6 2; have k3 : w9.cell? ⟨w.heap.size + 1 + 1, 3, none⟩ = some (.int .i64 0) := cell_row hx6 3; have k4 : w9.cell? ⟨w.heap.size + 1 + 1, 4, none⟩ = some (.int .i64 0) := cell_row hx6 4
      have j0 := free_row hx6 0; have j1 := free_row hx6 1; have j2 := free_row hx6 2; have j3 := free_row hx6 3; have j4 := free_row hx6 4
      have HX69 := Lib.hid hx6
      clear hx6 h9 hHeld
      go_wp2
      rw [← set5]
      have h5 := set5_heap (a' := .slice A8 (writeD D a.at_ (scFull a.S)).1.S.length c8) (b' := .slice A9 (writeD D a.at_ (scFull a.S)).1.Q.length c9) (c' := .bool (writeD D a.at_ (scFull a.S)).1.dead) (d' := .int .i64 (writeD D a.at_ (scFull a.S)).1.arm) (e' := .int .i64 (writeD D a.at_ (scFull a.S)).1.deeds) HX69.out
      exact bodyPost_ret (results_cell2 Try.results19 rfl rfl (load_rdisk h5)) rfl ⟨vq2, _, _, rfl, do_end HD3.out (HP3.out.foot (fun b _ hf => .inl hf)) HB9.out HB03.out (by omega) (by omega) hz3 HB.out.size (ft_new hn6 (fun k hk => by rcases HN3.out k hk with e | e; exact .inl e; exact .inr (Nat.le_trans HB2.out.size e)) (by omega)) HK13.out (fun k hk => by rcases HN3.out k hk with e | e; exact .inl e; exact .inr (Nat.le_trans HB1.out.size (Nat.le_trans HB2.out.size e)))⟩
    · go_simp
      have hbA := fun (W : World) => (Below.refl W.heap.size W).alloc (Nat.le_refl _) (.cells #[.slice none 0 0, .slice none 0 0, .bool false, .int .i64 0, .int .i64 0] 43)
      have hnx := HS.out.of (hHeld.2.2.2.2.2.2.2.trans ((hbA _).mono hHeld.2.2.2.2.2.2.2.size)) hb4 hb5
      have hg9 := hHeld.2.2.2.2.2.2.2.size
      have H9 := Lib.hid (new_heap wF (.cells #[.slice none 0 0, .slice none 0 0, .bool false, .int .i64 0, .int .i64 0] 43 (0, 0)))
      try (have HP' := Lib.hid (HP.out.foot (G := fun k => Fx X p gS vq2 w w1 k ∨ k = wF.heap.size) (fun b hb hf => by rcases hf with hf | hf; exact hf; exact absurd hb (by omega))); have HP2 := Lib.hid (HP'.out.below (hbA _)); clear HP HP')
      clear hbA
      revert hnx H9 hK hg9
      try revert HP2
      generalize wF.alloc (.cells #[.slice none 0 0, .slice none 0 0, .bool false, .int .i64 0, .int .i64 0] 43) = wG
      generalize wF.heap.size = g9
      intro hK hnx hg9 H9
      refine hK.out _ _ hnx (fun hHeld' => ?_)
      clear hK K hHeld hnx
      have hHeld := hHeld'
      clear hHeld'
      (try simp only [Act.put, List.setIfInBounds_toArray, List.set_cons_zero, List.set_cons_succ])
      refine loud1F (i := 6) (some 36) #[true, true, true, true, true, true, true, false, false, false, true, false, false] rfl rfl (by kernel_rfl) (fun K hK => ?_)
      go_simp
      go_at_call 30
      have HRW := Lib.hid (HR3.out.below hHeld.2.2.2.2.2.2.2)
      refine (HPUT _ _ (HRW.out.foot9 (g := g9) (w := w3) HR3.out hg9) (fun k hk => by rcases hk with hk | hk; exact Nat.lt_of_lt_of_le (HF3.out k hk) hHeld.2.2.2.2.2.2.2.size; subst hk; exact (Array.getElem?_eq_some_iff.1 H9.out).1)).out.mono ?_
      rintro e wP ⟨vS3, vQ3, rfl, hr3, hbP⟩
      have HP := Lib.hid hr3
      try (have H9' := Lib.hid (old_heap H9.out hbP); clear H9; have H9 := H9'; clear H9')
      obtain ⟨A8, c8, rfl, _⟩ := hr3.secs
      obtain ⟨A9, c9, rfl, _⟩ := hr3.que
      have hnx := HS.out.of (hHeld.2.2.2.2.2.2.2.trans (hbP.mono hHeld.2.2.2.2.2.2.2.size)) hb4 hb5
      clear hbP hr3 HRW
      have HP2 := Lib.hid HP.out
      clear HP
      refine hK.out _ _ hnx (fun hHeld' => ?_)
      clear hK K hHeld hnx
      have hHeld := hHeld'
      clear hHeld'
      (try simp only [Act.put, List.setIfInBounds_toArray, List.set_cons_zero, List.set_cons_succ])
      refine take1F (i := 7) (v := ?_) (a' := ?_) (some 29) #[true, true, true, true, true, true, true, true, false, false, true, false, false] rfl rfl (by kernel_rfl) (fun _ _ _ h => h) (Or.inl ⟨by rfl, ?_⟩) hHeld ?_ ?_
      rotate_left
      · (intro w hSw; (try dsimp only at hSw); go_simp; (try with_reducible rfl))
      rotate_left
      · simp only [Act.put, List.setIfInBounds_toArray, List.set_cons_zero, List.set_cons_succ]
        rfl
      refine take1F (i := 8) (v := ?_) (a' := ?_) (some 37) #[true, true, true, true, true, true, true, true, true, false, true, false, false] rfl rfl (by kernel_rfl) (fun _ _ _ h => h) (Or.inl ⟨by rfl, ?_⟩) hHeld ?_ ?_
      rotate_left
      · (intro w hSw; (try dsimp only at hSw); go_simp; (try with_reducible rfl))
      rotate_left
      · simp only [Act.put, List.setIfInBounds_toArray, List.set_cons_zero, List.set_cons_succ]
        rfl
      refine take1F (i := 9) (v := ?_) (a' := ?_) (some 38) #[true, true, true, true, true, true, true, true, true, true, true, false, false] rfl rfl (by kernel_rfl) (fun _ _ _ h => h) (Or.inl ⟨by rfl, ?_⟩) hHeld ?_ ?_
      rotate_left
      · (intro w hSw; (try dsimp only at hSw); go_simp; (try with_reducible rfl))
      rotate_left
      · simp only [Act.put, List.setIfInBounds_toArray, List.set_cons_zero, List.set_cons_succ]
        rfl
      refine loud1F (i := 11) (none) #[true, true, true, true, true, true, true, true, true, true, true, true, false] rfl rfl (by kernel_rfl) (fun K hK => ?_)
      have h9 := H9.out
      have n0 : wP.cell? ⟨g9, 0, none⟩ = some (.slice none 0 0) := cell_row h9 0; have n1 : wP.cell? ⟨g9, 1, none⟩ = some (.slice none 0 0) := cell_row h9 1; have n2 : wP.cell? ⟨g9, 2, none⟩ = some (.bool false) := cell_row h9 2; have n3 : wP.cell? ⟨g9, 3, none⟩ = some (.int .i64 0) := cell_row h9 3; have n4 : wP.cell? ⟨g9, 4, none⟩ = some (.int .i64 0) := cell_row h9 4
      have m0 := free_row h9 0; have m1 := free_row h9 1; have m2 := free_row h9 2; have m3 := free_row h9 3; have m4 := free_row h9 4
      go_simp
      rw [← set5]
      have hnx := HS.out.of (set5_below (a := .slice A8 (writeD D a.at_ (scFull a.S)).1.S.length c8) (b := .slice A9 (writeD D a.at_ (scFull a.S)).1.Q.length c9) (c := .bool (writeD D a.at_ (scFull a.S)).1.dead) (d := .int .i64 (writeD D a.at_ (scFull a.S)).1.arm) (e := .int .i64 (writeD D a.at_ (scFull a.S)).1.deeds) hHeld.2.2.2.2.2.2.2 hg9) hb4 hb5
      have HH9 := Lib.hid (set5_heap (a' := .slice A8 (writeD D a.at_ (scFull a.S)).1.S.length c8) (b' := .slice A9 (writeD D a.at_ (scFull a.S)).1.Q.length c9) (c' := .bool (writeD D a.at_ (scFull a.S)).1.dead) (d' := .int .i64 (writeD D a.at_ (scFull a.S)).1.arm) (e' := .int .i64 (writeD D a.at_ (scFull a.S)).1.deeds) h9)
      have HP3 := Lib.hid (HP2.out.keep (Keep.mono (tape_set5 (w := wP) (g := g9) (a := .slice A8 (writeD D a.at_ (scFull a.S)).1.S.length c8) (b := .slice A9 (writeD D a.at_ (scFull a.S)).1.Q.length c9) (c := .bool (writeD D a.at_ (scFull a.S)).1.dead) (d := .int .i64 (writeD D a.at_ (scFull a.S)).1.arm) (e := .int .i64 (writeD D a.at_ (scFull a.S)).1.deeds)) (fun k e => .inr e)))
      clear h9 n0 n1 n2 n3 n4 m0 m1 m2 m3 m4 H9 HP2
      revert HH9 HP3 hnx hK
      generalize set5 wP g9 (.slice A8 (writeD D a.at_ (scFull a.S)).1.S.length c8) (.slice A9 (writeD D a.at_ (scFull a.S)).1.Q.length c9) (.bool (writeD D a.at_ (scFull a.S)).1.dead) (.int .i64 (writeD D a.at_ (scFull a.S)).1.arm) (.int .i64 (writeD D a.at_ (scFull a.S)).1.deeds) = w9
      intro hK hnx HH9 HP3
      refine hK.out _ _ hnx (fun hHeld' => ?_)
      clear hK K hHeld hnx
      have hHeld := hHeld'
      clear hHeld'
      (try simp only [Act.put, List.setIfInBounds_toArray, List.set_cons_zero, List.set_cons_succ])
      refine last1F (some 10) #[true, true, true, true, true, true, true, true, true, true, true, true, true] rfl rfl (by kernel_rfl) (fun K hK => ?_)
      go_simp
      refine hK.out _ _ ?_
      clear hK K
      (try simp only [Act.put, List.setIfInBounds_toArray, List.set_cons_zero, List.set_cons_succ])
      refine wpAnyF_done (by kernel_rfl) ?_ _
      have HB9 := Lib.hid hHeld.2.2.2.2.2.2.2
      have h9 := HH9.out
      have n0 : w9.cell? ⟨g9, 0, none⟩ = some (.slice A8 (writeD D a.at_ (scFull a.S)).1.S.length c8) := cell_row h9 0; have n1 : w9.cell? ⟨g9, 1, none⟩ = some (.slice A9 (writeD D a.at_ (scFull a.S)).1.Q.length c9) := cell_row h9 1; have n2 : w9.cell? ⟨g9, 2, none⟩ = some (.bool (writeD D a.at_ (scFull a.S)).1.dead) := cell_row h9 2; have n3 : w9.cell? ⟨g9, 3, none⟩ = some (.int .i64 (writeD D a.at_ (scFull a.S)).1.arm) := cell_row h9 3; have n4 : w9.cell? ⟨g9, 4, none⟩ = some (.int .i64 (writeD D a.at_ (scFull a.S)).1.deeds) := cell_row h9 4
      have hx6 := old_heap HX63.out HB9.out
      have k0 : w9.cell? ⟨w.heap.size + 1 + 1, 0, none⟩ = some (.slice none 0 0) := cell_row hx6 0; have k1 : w9.cell? ⟨w.heap.size + 1 + 1, 1, none⟩ = some (.slice none 0 0) := cell_row hx6 1; have k2 : w9.cell? ⟨w.heap.size + 1 + 1, 2, none⟩ = some (.bool false) := cell_row hx6 2; have k3 : w9.cell? ⟨w.heap.size + 1 + 1, 3, none⟩ = some (.int .i64 0) := cell_row hx6 3; have k4 : w9.cell? ⟨w.heap.size + 1 + 1, 4, none⟩ = some (.int .i64 0) := cell_row hx6 4
      have j0 := free_row hx6 0; have j1 := free_row hx6 1; have j2 := free_row hx6 2; have j3 := free_row hx6 3; have j4 := free_row hx6 4
      have HX69 := Lib.hid hx6
      clear hx6 h9 hHeld
      go_wp2
      rw [← set5]
      have h5 := set5_heap (a' := .slice A8 (writeD D a.at_ (scFull a.S)).1.S.length c8) (b' := .slice A9 (writeD D a.at_ (scFull a.S)).1.Q.length c9) (c' := .bool (writeD D a.at_ (scFull a.S)).1.dead) (d' := .int .i64 (writeD D a.at_ (scFull a.S)).1.arm) (e' := .int .i64 (writeD D a.at_ (scFull a.S)).1.deeds) HX69.out
      exact bodyPost_ret (results_cell2 Try.results19 rfl rfl (load_rdisk h5)) rfl ⟨vq2, _, _, rfl, do_end HD3.out (HP3.out.foot (fun b _ hf => .inl hf)) HB9.out HB03.out (by omega) (by omega) hz3 HB.out.size (ft_new hn6 (fun k hk => by rcases HN3.out k hk with e | e; exact .inl e; exact .inr (Nat.le_trans HB2.out.size e)) (by omega)) HK13.out (fun k hk => by rcases HN3.out k hk with e | e; exact .inl e; exact .inr (Nat.le_trans HB1.out.size (Nat.le_trans HB2.out.size e)))⟩
  · go_simp
    have hbA := fun (W : World) => (Below.refl W.heap.size W).alloc (Nat.le_refl _) (.cells #[.slice none 0 0, .slice none 0 0, .bool false, .int .i64 0, .int .i64 0] 43)
    have hnx := HS.out.of (hHeld.2.2.2.2.2.2.2.trans ((hbA _).mono hHeld.2.2.2.2.2.2.2.size)) hb4 hb5
    have hg9 := hHeld.2.2.2.2.2.2.2.size
    have H9 := Lib.hid (new_heap w3d (.cells #[.slice none 0 0, .slice none 0 0, .bool false, .int .i64 0, .int .i64 0] 43 (0, 0)))
    try (have HP' := Lib.hid (HP.out.foot (G := fun k => Fx X p gS vq2 w w1 k ∨ k = w3d.heap.size) (fun b hb hf => by rcases hf with hf | hf; exact hf; exact absurd hb (by omega))); have HP2 := Lib.hid (HP'.out.below (hbA _)); clear HP HP')
    clear hbA
    revert hnx H9 hK hg9
    try revert HP2
    generalize w3d.alloc (.cells #[.slice none 0 0, .slice none 0 0, .bool false, .int .i64 0, .int .i64 0] 43) = wG
    generalize w3d.heap.size = g9
    intro hK hnx hg9 H9
    refine hK.out _ _ hnx (fun hHeld' => ?_)
    clear hK K hHeld hnx
    have hHeld := hHeld'
    clear hHeld'
    (try simp only [Act.put, List.setIfInBounds_toArray, List.set_cons_zero, List.set_cons_succ])
    refine loud1F (i := 5) (some 35) #[true, true, true, true, true, true, false, false, false, false, true, false, false] rfl rfl (by kernel_rfl) (fun K hK => ?_)
    go_simp
    go_at_call 21
    refine (full_any' a.vS a.S _ HAC.out.sl (HAC.out.below (HB03.out.trans (hHeld.2.2.2.2.2.2.2.mono HB03.out.size))).s).mono ?_
    rintro e wF ⟨rfl, hbF⟩
    have hnx := HS.out.of (hHeld.2.2.2.2.2.2.2.trans (hbF.mono hHeld.2.2.2.2.2.2.2.size)) hb4 hb5
    try (have H9' := Lib.hid (old_heap H9.out hbF); clear H9; have H9 := H9'; clear H9')
    clear hbF
    refine hK.out _ _ hnx (fun hHeld' => ?_)
    clear hK K hHeld hnx
    have hHeld := hHeld'
    clear hHeld'
    (try simp only [Act.put, List.setIfInBounds_toArray, List.set_cons_zero, List.set_cons_succ])
    refine loud1F (i := 6) (some 36) #[true, true, true, true, true, true, true, false, false, false, true, false, false] rfl rfl (by kernel_rfl) (fun K hK => ?_)
    go_simp
    go_at_call 30
    have HRW := Lib.hid (HR3.out.below hHeld.2.2.2.2.2.2.2)
    refine (HPUT _ _ (HRW.out.foot9 (g := g9) (w := w3) HR3.out hg9) (fun k hk => by rcases hk with hk | hk; exact Nat.lt_of_lt_of_le (HF3.out k hk) hHeld.2.2.2.2.2.2.2.size; subst hk; exact (Array.getElem?_eq_some_iff.1 H9.out).1)).out.mono ?_
    rintro e wP ⟨vS3, vQ3, rfl, hr3, hbP⟩
    have HP := Lib.hid hr3
    try (have H9' := Lib.hid (old_heap H9.out hbP); clear H9; have H9 := H9'; clear H9')
    obtain ⟨A8, c8, rfl, _⟩ := hr3.secs
    obtain ⟨A9, c9, rfl, _⟩ := hr3.que
    have hnx := HS.out.of (hHeld.2.2.2.2.2.2.2.trans (hbP.mono hHeld.2.2.2.2.2.2.2.size)) hb4 hb5
    clear hbP hr3 HRW
    have HP2 := Lib.hid HP.out
    clear HP
    refine hK.out _ _ hnx (fun hHeld' => ?_)
    clear hK K hHeld hnx
    have hHeld := hHeld'
    clear hHeld'
    (try simp only [Act.put, List.setIfInBounds_toArray, List.set_cons_zero, List.set_cons_succ])
    refine take1F (i := 7) (v := ?_) (a' := ?_) (some 29) #[true, true, true, true, true, true, true, true, false, false, true, false, false] rfl rfl (by kernel_rfl) (fun _ _ _ h => h) (Or.inl ⟨by rfl, ?_⟩) hHeld ?_ ?_
    rotate_left
    · (intro w hSw; (try dsimp only at hSw); go_simp; (try with_reducible rfl))
    rotate_left
    · simp only [Act.put, List.setIfInBounds_toArray, List.set_cons_zero, List.set_cons_succ]
      rfl
    refine take1F (i := 8) (v := ?_) (a' := ?_) (some 37) #[true, true, true, true, true, true, true, true, true, false, true, false, false] rfl rfl (by kernel_rfl) (fun _ _ _ h => h) (Or.inl ⟨by rfl, ?_⟩) hHeld ?_ ?_
    rotate_left
    · (intro w hSw; (try dsimp only at hSw); go_simp; (try with_reducible rfl))
    rotate_left
    · simp only [Act.put, List.setIfInBounds_toArray, List.set_cons_zero, List.set_cons_succ]
      rfl
    refine take1F (i := 9) (v := ?_) (a' := ?_) (some 38) #[true, true, true, true, true, true, true, true, true, true, true, false, false] rfl rfl (by kernel_rfl) (fun _ _ _ h => h) (Or.inl ⟨by rfl, ?_⟩) hHeld ?_ ?_
    rotate_left
    · (intro w hSw; (try dsimp only at hSw); go_simp; (try with_reducible rfl))
    rotate_left
    · simp only [Act.put, List.setIfInBounds_toArray, List.set_cons_zero, List.set_cons_succ]
      rfl
    refine loud1F (i := 11) (none) #[true, true, true, true, true, true, true, true, true, true, true, true, false] rfl rfl (by kernel_rfl) (fun K hK => ?_)
    have h9 := H9.out
    have n0 : wP.cell? ⟨g9, 0, none⟩ = some (.slice none 0 0) := cell_row h9 0; have n1 : wP.cell? ⟨g9, 1, none⟩ = some (.slice none 0 0) := cell_row h9 1; have n2 : wP.cell? ⟨g9, 2, none⟩ = some (.bool false) := cell_row h9 2; have n3 : wP.cell? ⟨g9, 3, none⟩ = some (.int .i64 0) := cell_row h9 3; have n4 : wP.cell? ⟨g9, 4, none⟩ = some (.int .i64 0) := cell_row h9 4
    have m0 := free_row h9 0; have m1 := free_row h9 1; have m2 := free_row h9 2; have m3 := free_row h9 3; have m4 := free_row h9 4
    go_simp
    rw [← set5]
    have hnx := HS.out.of (set5_below (a := .slice A8 (writeD D a.at_ (scFull a.S)).1.S.length c8) (b := .slice A9 (writeD D a.at_ (scFull a.S)).1.Q.length c9) (c := .bool (writeD D a.at_ (scFull a.S)).1.dead) (d := .int .i64 (writeD D a.at_ (scFull a.S)).1.arm) (e := .int .i64 (writeD D a.at_ (scFull a.S)).1.deeds) hHeld.2.2.2.2.2.2.2 hg9) hb4 hb5
    have HH9 := Lib.hid (set5_heap (a' := .slice A8 (writeD D a.at_ (scFull a.S)).1.S.length c8) (b' := .slice A9 (writeD D a.at_ (scFull a.S)).1.Q.length c9) (c' := .bool (writeD D a.at_ (scFull a.S)).1.dead) (d' := .int .i64 (writeD D a.at_ (scFull a.S)).1.arm) (e' := .int .i64 (writeD D a.at_ (scFull a.S)).1.deeds) h9)
    have HP3 := Lib.hid (HP2.out.keep (Keep.mono (tape_set5 (w := wP) (g := g9) (a := .slice A8 (writeD D a.at_ (scFull a.S)).1.S.length c8) (b := .slice A9 (writeD D a.at_ (scFull a.S)).1.Q.length c9) (c := .bool (writeD D a.at_ (scFull a.S)).1.dead) (d := .int .i64 (writeD D a.at_ (scFull a.S)).1.arm) (e := .int .i64 (writeD D a.at_ (scFull a.S)).1.deeds)) (fun k e => .inr e)))
    clear h9 n0 n1 n2 n3 n4 m0 m1 m2 m3 m4 H9 HP2
    revert HH9 HP3 hnx hK
    generalize set5 wP g9 (.slice A8 (writeD D a.at_ (scFull a.S)).1.S.length c8) (.slice A9 (writeD D a.at_ (scFull a.S)).1.Q.length c9) (.bool (writeD D a.at_ (scFull a.S)).1.dead) (.int .i64 (writeD D a.at_ (scFull a.S)).1.arm) (.int .i64 (writeD D a.at_ (scFull a.S)).1.deeds) = w9
    intro hK hnx HH9 HP3
    refine hK.out _ _ hnx (fun hHeld' => ?_)
    clear hK K hHeld hnx
    have hHeld := hHeld'
    clear hHeld'
    (try simp only [Act.put, List.setIfInBounds_toArray, List.set_cons_zero, List.set_cons_succ])
    refine last1F (some 10) #[true, true, true, true, true, true, true, true, true, true, true, true, true] rfl rfl (by kernel_rfl) (fun K hK => ?_)
    go_simp
    refine hK.out _ _ ?_
    clear hK K
    (try simp only [Act.put, List.setIfInBounds_toArray, List.set_cons_zero, List.set_cons_succ])
    refine wpAnyF_done (by kernel_rfl) ?_ _
    have HB9 := Lib.hid hHeld.2.2.2.2.2.2.2
    have h9 := HH9.out
    have n0 : w9.cell? ⟨g9, 0, none⟩ = some (.slice A8 (writeD D a.at_ (scFull a.S)).1.S.length c8) := cell_row h9 0; have n1 : w9.cell? ⟨g9, 1, none⟩ = some (.slice A9 (writeD D a.at_ (scFull a.S)).1.Q.length c9) := cell_row h9 1; have n2 : w9.cell? ⟨g9, 2, none⟩ = some (.bool (writeD D a.at_ (scFull a.S)).1.dead) := cell_row h9 2; have n3 : w9.cell? ⟨g9, 3, none⟩ = some (.int .i64 (writeD D a.at_ (scFull a.S)).1.arm) := cell_row h9 3; have n4 : w9.cell? ⟨g9, 4, none⟩ = some (.int .i64 (writeD D a.at_ (scFull a.S)).1.deeds) := cell_row h9 4
    have hx6 := old_heap HX63.out HB9.out
    have k0 : w9.cell? ⟨w.heap.size + 1 + 1, 0, none⟩ = some (.slice none 0 0) := cell_row hx6 0; have k1 : w9.cell? ⟨w.heap.size + 1 + 1, 1, none⟩ = some (.slice none 0 0) := cell_row hx6 1; have k2 : w9.cell? ⟨w.heap.size + 1 + 1, 2, none⟩ = some (.bool false) := cell_row hx6 2; have k3 : w9.cell? ⟨w.heap.size + 1 + 1, 3, none⟩ = some (.int .i64 0) := cell_row hx6 3; have k4 : w9.cell? ⟨w.heap.size + 1 + 1, 4, none⟩ = some (.int .i64 0) := cell_row hx6 4
    have j0 := free_row hx6 0; have j1 := free_row hx6 1; have j2 := free_row hx6 2; have j3 := free_row hx6 3; have j4 := free_row hx6 4
    have HX69 := Lib.hid hx6
    clear hx6 h9 hHeld
    go_wp2
    rw [← set5]
    have h5 := set5_heap (a' := .slice A8 (writeD D a.at_ (scFull a.S)).1.S.length c8) (b' := .slice A9 (writeD D a.at_ (scFull a.S)).1.Q.length c9) (c' := .bool (writeD D a.at_ (scFull a.S)).1.dead) (d' := .int .i64 (writeD D a.at_ (scFull a.S)).1.arm) (e' := .int .i64 (writeD D a.at_ (scFull a.S)).1.deeds) HX69.out
    exact bodyPost_ret (results_cell2 Try.results19 rfl rfl (load_rdisk h5)) rfl ⟨vq2, _, _, rfl, do_end HD3.out (HP3.out.foot (fun b _ hf => .inl hf)) HB9.out HB03.out (by omega) (by omega) hz3 HB.out.size (ft_new hn6 (fun k hk => by rcases HN3.out k hk with e | e; exact .inl e; exact .inr (Nat.le_trans HB2.out.size e)) (by omega)) HK13.out (fun k hk => by rcases HN3.out k hk with e | e; exact .inl e; exact .inr (Nat.le_trans HB1.out.size (Nat.le_trans HB2.out.size e)))⟩
end Go.Proofs.Ytiehfaiadhhndaa
