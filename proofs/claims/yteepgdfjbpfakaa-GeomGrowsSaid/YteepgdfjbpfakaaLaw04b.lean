/-
  The statement GeomGrows of layer 4.
-/
import Derived.Test.YteepgdfjbpfakaaLaw04
import Derived.Test.YteepgdfjbpfakaaInv
namespace Go.Proofs.Yteepgdfjbpfakaa
open Go.RowKit
set_option linter.unusedVariables false
set_option linter.unusedSimpArgs false
attribute [local go_sem] maxI_two minI_two

/-! ### plain -/
theorem gup_mono {n m b : Nat} (h : n ≤ m) : gup n b ≤ gup m b := Nat.div_le_div_right (by omega)
theorem gup_anti {n b c : Nat} (hb : 1 ≤ b) (h : b ≤ c) : gup n c ≤ gup n b := by
  rcases Nat.lt_or_ge (gup n b) (gup n c) with hlt | hge
  · have h1 := (gup_lt n c (gup n b) (by omega)).2 hlt
    have h2 : ¬ gup n b * b < n := fun h => by have := (gup_lt n b (gup n b) hb).1 h; omega
    have h3 : gup n b * b ≤ gup n b * c := Nat.mul_le_mul_left _ h
    omega
  · exact hge
theorem need_mono {g g' i i' : Nat} (hg1 : 1 ≤ g) (hg : g ≤ g') (hi : i' ≤ i) : gNeed g' i' ≤ gNeed g i :=
  Nat.le_trans (gup_anti (b := gCap g) (by unfold gCap; omega) (by unfold gCap; omega)) (gup_mono (gup_mono hi))
theorem most_mono {s s' g g' i i' : Nat} (hs : s ≤ s') (hg1 : 1 ≤ g) (hg : g ≤ g') (hi : i' ≤ i) : gMost s g i ≤ gMost s' g' i' := by
  have := need_mono hg1 hg hi
  unfold gMost
  omega
theorem room_mono {s s' g g' i i' : Nat} (hs : s ≤ s') (hg1 : 1 ≤ g) (hg : g ≤ g') (hi : i' ≤ i) : gRoom s g i ≤ gRoom s' g' i' :=
  Nat.mul_le_mul (most_mono hs hg1 hg hi) (by unfold gCap; omega)

theorem size_alloc_ (w : World) (o : Obj) : (w.alloc o).heap.size = w.heap.size + 1 := by simp
theorem drew_size_ (w : World) : w.drew.heap.size = w.heap.size := rfl
/-- What more of each comes to. -/
def moreN (x m most cap : Int) : Int := mnI x most + mxI 0 (mnI m cap)
def lessN (x m : Int) : Int := mxI x 2 - mxI 0 (mnI m 200)
theorem mn_le (a b : Int) : mnI a b ≤ a ∧ mnI a b ≤ b := by unfold mnI; split <;> omega
theorem mx_ge (a b : Int) : a ≤ mxI a b ∧ b ≤ mxI a b := by unfold mxI; split <;> omega
theorem mn_eq (a b : Int) : mnI a b = a ∨ mnI a b = b := by unfold mnI; split <;> simp
theorem mx_eq (a b : Int) : mxI a b = a ∨ mxI a b = b := by unfold mxI; split <;> simp
/-- Two geometries' cells, each its own numbers. -/
def AtTwo (b c : Nat) (s g i s' g' i' : Int) (w : World) : Prop := At3 b s g i w ∧ At3 c s' g' i' w
theorem AtTwo.below {b c : Nat} {s g i s' g' i' : Int} {w w' : World} (h : AtTwo b c s g i s' g' i' w) (hb : Below w.heap.size w w') : AtTwo b c s g i s' g' i' w' := ⟨h.1.below hb, h.2.below hb⟩
theorem At3.set {b : Nat} {s g i : Int} {w : World} (h : At3 b s g i w) {p : Addr} (hb : p.block ≠ b) (v : Value) : At3 b s g i (w.setCell p v) :=
  ⟨by rw [World.cell?_setCell_other _ _ _ _ (fun e => hb (by rw [e]))]; exact h.1, by rw [World.cell?_setCell_other _ _ _ _ (fun e => hb (by rw [e]))]; exact h.2.1, by rw [World.cell?_setCell_other _ _ _ _ (fun e => hb (by rw [e]))]; exact h.2.2⟩
theorem AtTwo.set {b c : Nat} {s g i s' g' i' : Int} {w : World} (h : AtTwo b c s g i s' g' i' w) {p : Addr} (hb : p.block ≠ b) (hc : p.block ≠ c) (v : Value) : AtTwo b c s g i s' g' i' (w.setCell p v) := ⟨h.1.set hb v, h.2.set hc v⟩
set_option maxHeartbeats 4000000 in
set_option maxRecDepth 100000 in
theorem geomGrows_bad (s g i m0 m1 m2 : Int) (w : World) (hs : -9223372036854775808 ≤ s) (hg : -9223372036854775808 ≤ g) (hi : i ≤ 9223372036854775807)
    (hc : ∀ W : World, Calls Try.prog 9 #[geomV s g i] W (RetN W 1)) : Calls Try.prog 4 #[geomV s g i, .agg #[.int .i64 m0, .int .i64 m1, .int .i64 m2]] w (RetT w true) := by
  have hbox := ((Below.refl w.heap.size w).alloc (Nat.le_refl _) (.cells #[.int .i64 s, .int .i64 g, .int .i64 i] 23 (0, 0))).alloc (by simp) (.cells #[.int .i64 m0, .int .i64 m1, .int .i64 m2] 32 (0, 0))
  have HC := Lib.hid hc
  clear hc
  unfold geomV
  obtain ⟨x1, x2⟩ := mn_le s 200
  obtain ⟨x3, x4⟩ := mn_le g 32
  obtain ⟨x5, x6⟩ := mx_ge i 2
  obtain ⟨y1, y2⟩ := mx_ge 0 (mnI m0 200)
  obtain ⟨y3, y4⟩ := mx_ge 0 (mnI m1 40)
  obtain ⟨y5, y6⟩ := mx_ge 0 (mnI m2 200)
  have z1 : -9223372036854775808 ≤ mnI s 200 := by rcases mn_eq s 200 with h | h <;> omega
  have z2 : -9223372036854775808 ≤ mnI g 32 := by rcases mn_eq g 32 with h | h <;> omega
  have z3 : mxI i 2 ≤ 9223372036854775807 := by rcases mx_eq i 2 with h | h <;> omega
  have u1 : mxI 0 (mnI m0 200) ≤ 200 := by have := (mn_le m0 200).2; rcases mx_eq 0 (mnI m0 200) with h | h <;> omega
  have u2 : mxI 0 (mnI m1 40) ≤ 40 := by have := (mn_le m1 40).2; rcases mx_eq 0 (mnI m1 40) with h | h <;> omega
  have u3 : mxI 0 (mnI m2 200) ≤ 200 := by have := (mn_le m2 200).2; rcases mx_eq 0 (mnI m2 200) with h | h <;> omega
  clear x1 x3 x5 y2 y4 y6
  go_enter Try.func4, Try.ntmps4
  go_wp2_with (first
    | (go_at_call 7; refine (awake04 _).mono ?_; rintro e w1 ⟨rfl, hb1⟩; obtain ⟨hc, hf⟩ := bcell hb1; have hz : w.heap.size + 1 < w1.heap.size := (by have := hb1.size; simp at this; omega); have hz0 : w.heap.size < w1.heap.size := by omega)
    | (go_at_call 8; refine (own_any s g i _).mono ?_; rintro e w2 ⟨rfl, hb2⟩; unfold geomV)
    | (go_at_call 9; refine (HC.out _).mono ?_; rintro e w3 ⟨rfl, hb3⟩))
  go_ret
  exact ⟨rfl, bnext (bnext ((bnext hbox hb1).alloc (by omega) _) hb2) hb3⟩
theorem heap_set3 {w : World} {p : Nat} {x y z : Value} {t : TypeId} (h : w.heap[p]? = some (.cells #[x, y, z] t (0, 0))) (a b c : Value) :
    (((w.setCell ⟨p, 0, none⟩ a).setCell ⟨p, 1, none⟩ b).setCell ⟨p, 2, none⟩ c).heap[p]? = some (.cells #[a, b, c] t (0, 0)) := by
  rw [setCell_row h, setRow_setCell h, setRow_setCell h, setRow_heap w p _ _ _ _ h]
  rfl
theorem heap_set3_other {w : World} {p q : Nat} {o : Obj} (h : w.heap[p]? = some o) (hne : p ≠ q) (a b c : Value) :
    (((w.setCell ⟨q, 0, none⟩ a).setCell ⟨q, 1, none⟩ b).setCell ⟨q, 2, none⟩ c).heap[p]? = some o := heap_set (heap_set (heap_set h hne _) hne _) hne _
/-- A geometry's block that is made in a region. -/
abbrev Fresh3 (lo p : Nat) (w : World) : Prop := lo < p ∧ ∃ x y z, w.heap[p]? = some (.cells #[x, y, z] 25 (0, 0))
set_option maxHeartbeats 4000000 in
set_option maxRecDepth 100000 in
theorem geomGrows_ok (s g i : Nat) (m0 m1 m2 : Int) (w : World) (h1 : 8 ≤ s) (h2 : s ≤ 200) (h3 : 1 ≤ g) (h4 : g ≤ 32) (h5 : 2 ≤ i) (h6 : i ≤ 200) (hr : 8 ≤ gRoom s g i) :
    Calls Try.prog 4 #[geomV s g i, .agg #[.int .i64 m0, .int .i64 m1, .int .i64 m2]] w (RetT w true) := by
  have hbox := ((Below.refl w.heap.size w).alloc (Nat.le_refl _) (.cells #[.int .i64 s, .int .i64 g, .int .i64 i] 23 (0, 0))).alloc (by simp) (.cells #[.int .i64 m0, .int .i64 m1, .int .i64 m2] 32 (0, 0))
  have hin : gIn s g i = true := by simp [gIn]; omega
  have HIN := Lib.hid hin
  have HR := Lib.hid hr
  have hA := (at3_new w 23 s g i).below ((Below.refl _ _).alloc (Nat.le_refl _) (.cells #[.int .i64 m0, .int .i64 m1, .int .i64 m2] 32 (0, 0)))
  clear hr hin
  unfold geomV
  have x1 : mnI s 200 = s := by unfold mnI; split <;> omega
  have x2 : mnI g 32 = g := by unfold mnI; split <;> omega
  have x3 : mxI i 2 = i := by unfold mxI; split <;> omega
  obtain ⟨y1, y2⟩ := mx_ge 0 (mnI m0 200)
  obtain ⟨y3, y4⟩ := mx_ge 0 (mnI m1 40)
  obtain ⟨y5, y6⟩ := mx_ge 0 (mnI m2 200)
  have u1 : mxI 0 (mnI m0 200) ≤ 200 := by have := (mn_le m0 200).2; rcases mx_eq 0 (mnI m0 200) with h | h <;> omega
  have u2 : mxI 0 (mnI m1 40) ≤ 40 := by have := (mn_le m1 40).2; rcases mx_eq 0 (mnI m1 40) with h | h <;> omega
  have u3 : mxI 0 (mnI m2 200) ≤ 200 := by have := (mn_le m2 200).2; rcases mx_eq 0 (mnI m2 200) with h | h <;> omega
  clear y2 y4 y6
  have hcut : ∀ K : Prop, (200 < (s : Int) + mxI 0 (mnI m0 200) → K) → ((s : Int) + mxI 0 (mnI m0 200) ≤ 200 → 32 < (g : Int) + mxI 0 (mnI m1 40) → K) → ((s : Int) + mxI 0 (mnI m0 200) ≤ 200 → (g : Int) + mxI 0 (mnI m1 40) ≤ 32 → (i : Int) - mxI 0 (mnI m2 200) < 2 → K) →
      ((s : Int) + mxI 0 (mnI m0 200) ≤ 200 → (g : Int) + mxI 0 (mnI m1 40) ≤ 32 → 2 ≤ (i : Int) - mxI 0 (mnI m2 200) → K) → K := fun K a b c d => by
    by_cases k1 : 200 < (s : Int) + mxI 0 (mnI m0 200)
    · exact a k1
    · by_cases k2 : 32 < (g : Int) + mxI 0 (mnI m1 40)
      · exact b (by omega) k2
      · by_cases k3 : (i : Int) - mxI 0 (mnI m2 200) < 2
        · exact c (by omega) (by omega) k3
        · exact d (by omega) (by omega) (by omega)
  refine hcut _ ?_ ?_ ?_ ?_ <;> clear hcut
  rotate_right
  · intro k1 k2 k3
    go_enter Try.func4, Try.ntmps4
    go_upto_region 9 with (first
      | (go_at_call 7; refine (awake04 _).mono ?_; rintro e w1 ⟨rfl, hb1⟩; have hA1 := hA.below hb1; have p1 := hA1.1; have p2 := hA1.2.1; have p3 := hA1.2.2; obtain ⟨hc, hf⟩ := bcell hb1; have hz : w.heap.size + 1 < w1.heap.size := (by have := hb1.size; simp at this; omega); have hz0 : w.heap.size < w1.heap.size := by omega)
      | (go_at_call 8; refine (own_any s g i _).mono ?_; rintro e w2 ⟨rfl, hb2⟩; unfold geomV; obtain ⟨hc2, hf2⟩ := bcell hb2; have hz2 : w1.heap.size < w2.heap.size := (by have := hb2.size; simp at this; omega))
      | (go_at_call 9; refine (check_in s g i _ HIN.out).mono ?_; rintro e w3 ⟨rfl, hb3⟩; rw [if_pos HR.out]; obtain ⟨hc3, hf3⟩ := bcell hb3; have hz3 : w1.heap.size < w3.heap.size := Nat.lt_of_lt_of_le hz2 hb3.size))
    have hA3 : AtTwo w.heap.size w1.heap.size s g i ((s : Int) + mxI 0 (mnI m0 200)) ((g : Int) + mxI 0 (mnI m1 40)) ((i : Int) - mxI 0 (mnI m2 200)) w3 :=
      (AtTwo.below ⟨hA1.below ((Below.refl _ _).alloc (Nat.le_refl _) _), at3_new w1 23 _ _ _⟩ hb2).below hb3
    have hB3 := bnext (bnext ((bnext hbox hb1).alloc (by omega) (.cells #[.int .i64 ((s : Int) + mxI 0 (mnI m0 200)), .int .i64 ((g : Int) + mxI 0 (mnI m1 40)), .int .i64 ((i : Int) - mxI 0 (mnI m2 200))] 23 (0, 0))) hb2) hb3
    obtain ⟨a, ha⟩ := Int.eq_ofNat_of_zero_le (show 0 ≤ (s : Int) + mxI 0 (mnI m0 200) by omega)
    obtain ⟨b, hb⟩ := Int.eq_ofNat_of_zero_le (show 0 ≤ (g : Int) + mxI 0 (mnI m1 40) by omega)
    obtain ⟨c, hc0⟩ := Int.eq_ofNat_of_zero_le (show 0 ≤ (i : Int) - mxI 0 (mnI m2 200) by omega)
    have la : s ≤ a ∧ a ≤ 200 := by omega
    have lb : g ≤ b ∧ b ≤ 32 := by omega
    have lc : 2 ≤ c ∧ c ≤ i := by omega
    rw [ha, hb, hc0] at hA3 ⊢
    clear ha hb hc0 k1 k2 k3 p1 p2 p3 hc hf hc2 hf2 hc3 hf3 hA1 hA hbox hb1 hb2 hb3 x1 x2 x3 y1 y3 y5 u1 u2 u3
    refine wp_region_inv_lit (S := (fun w' => AtTwo w.heap.size w1.heap.size s g i a b c w' ∧ Below w.heap.size w w')) (nthF [(fun σ _ => σ 0 = .agg #[.int .i64 s, .int .i64 g, .int .i64 i]), (fun σ _ => σ 1 = .agg #[.int .i64 s, .int .i64 g, .int .i64 i]), (fun σ _ => σ 2 = .agg #[.int .i64 a, .int .i64 b, .int .i64 c]), (fun σ _ => σ 3 = .agg #[.int .i64 a, .int .i64 b, .int .i64 c]), (fun σ w' => ∃ p, σ 4 = .pointer (some ⟨p, 0, none⟩) ∧ Fresh3 w1.heap.size p w' ∧ ∀ q, σ 5 = .pointer (some ⟨q, 0, none⟩) → q ≠ p), (fun σ w' => ∃ p, σ 5 = .pointer (some ⟨p, 0, none⟩) ∧ Fresh3 w1.heap.size p w' ∧ ∀ q, σ 4 = .pointer (some ⟨q, 0, none⟩) → q ≠ p), (fun σ w' => ∃ p, σ 4 = .pointer (some ⟨p, 0, none⟩) ∧ (w1.heap.size < p ∧ w'.heap[p]? = some (.cells #[.int .i64 s, .int .i64 g, .int .i64 i] 25 (0, 0))) ∧ ∀ q, σ 5 = .pointer (some ⟨q, 0, none⟩) → q ≠ p), (fun σ w' => ∃ p, σ 5 = .pointer (some ⟨p, 0, none⟩) ∧ (w1.heap.size < p ∧ w'.heap[p]? = some (.cells #[.int .i64 a, .int .i64 b, .int .i64 c] 25 (0, 0))))]) 95 8 (by kernel_rfl) (by rfl) (by rfl) (by kernel_rfl) ?_ ?_ ?_
    · (try dsimp only)
      first | (with_reducible exact ⟨SA.out, sB⟩) | (with_reducible exact ⟨AtTwo.below SA.out HB.out, bnext sB HB.out⟩) | (with_reducible exact ⟨AtTwo.below SA.out ((Below.refl _ _).alloc (Nat.le_refl _) _), sB.alloc sB.size _⟩) | (with_reducible refine ⟨AtTwo.set (AtTwo.set (AtTwo.set SA.out ?_ ?_ _) ?_ ?_ _) ?_ ?_ _, ((sB.setCell ?_ _).setCell ?_ _).setCell ?_ _⟩ <;> (first | (show p ≠ _; omega) | (show _ ≤ p; omega))) | (exact ⟨hA3, hB3.drew⟩)
    · intro QQ
      refine ⟨⟨⟨⟨⟨⟨⟨⟨trivial, ?_⟩, ?_⟩, ?_⟩, ?_⟩, ?_⟩, ?_⟩, ?_⟩, ?_⟩
      · refine StepOf.introL (i := 0) rfl (some 63) rfl [] [2] [2, 4, 5] (by kernel_rfl) ?_
        intro σ aa ww sS sF sU sA K hK
        clear sF
        have sl2 := AllSlots.cons_none sA (by kernel_rfl)
        try simp only [List.getElem?_toArray, List.getElem?_cons_succ, List.getElem?_cons_zero] at sl2
        replace sA := sA.2
        clear sA
        try (have SA := Lib.hid sS.1; obtain ⟨⟨⟨s1, s2, s3⟩, s4, s5, s6⟩, sB⟩ := sS)
        try (obtain ⟨p, e4, ⟨hp, x, y, z, hx⟩, hq⟩ := f4; rw [e4] at sl6; have c0 : ww.cell? ⟨p, 0, none⟩ = some x := cell_row hx 0; have c1 : ww.cell? ⟨p, 1, none⟩ = some y := cell_row hx 1; have c2 : ww.cell? ⟨p, 2, none⟩ = some z := cell_row hx 2; have r0 := free_row hx 0; have r1 := free_row hx 1; have r2 := free_row hx 2; have HQ := Lib.hid hq; have HX := Lib.hid hx; have E4 := Lib.hid e4; clear hq hx e4)
        try (obtain ⟨p, e5, ⟨hp, x, y, z, hx⟩, hq⟩ := f5; rw [e5] at sl7; have c0 : ww.cell? ⟨p, 0, none⟩ = some x := cell_row hx 0; have c1 : ww.cell? ⟨p, 1, none⟩ = some y := cell_row hx 1; have c2 : ww.cell? ⟨p, 2, none⟩ = some z := cell_row hx 2; have r0 := free_row hx 0; have r1 := free_row hx 1; have r2 := free_row hx 2; have HQ := Lib.hid hq; have HX := Lib.hid hx; have E5 := Lib.hid e5; clear hq hx e5)
        try go_simp
        refine Shut.out hK _ _ ?_ ?_ ?_
        · (try clear hK)
          (try dsimp only)
          first | (with_reducible exact ⟨SA.out, sB⟩) | (with_reducible exact ⟨AtTwo.below SA.out HB.out, bnext sB HB.out⟩) | (with_reducible exact ⟨AtTwo.below SA.out ((Below.refl _ _).alloc (Nat.le_refl _) _), sB.alloc sB.size _⟩) | (with_reducible refine ⟨AtTwo.set (AtTwo.set (AtTwo.set SA.out ?_ ?_ _) ?_ ?_ _) ?_ ?_ _, ((sB.setCell ?_ _).setCell ?_ _).setCell ?_ _⟩ <;> (first | (show p ≠ _; omega) | (show _ ≤ p; omega))) | (exact ⟨hA3, hB3.drew⟩)
        · (try clear hK)
          simp only [nthF]
          (try simp only [upd, if_true, if_false, Nat.reduceEqDiff, reduceIte])
          first | done | trivial | rfl
        · refine ⟨?_, ?_, ?_, trivial⟩
          · (try clear hK)
            simp only [nthF]
            (try simp only [upd, if_true, if_false, Nat.reduceEqDiff, reduceIte])
            first | done | exact fun h => h | exact (fun _ => trivial)
          · (try clear hK)
            simp only [nthF]
            (try simp only [upd, if_true, if_false, Nat.reduceEqDiff, reduceIte])
            first | done | exact fun h => h | exact (fun _ => trivial) | (intro hpr; first | (obtain ⟨p, e5, ⟨hp, x, y, z, hx⟩, hq⟩ := hpr; with_reducible refine ⟨p, e5, ⟨hp, x, y, z, heap_alloc hx _⟩, fun q hq => ?_⟩; have := heap_lt hx; injection hq with hq; injection hq with hq; injection hq with hq; omega) | (obtain ⟨p, e4, ⟨hp, x, y, z, hx⟩, hq⟩ := hpr; with_reducible exact ⟨p, e4, ⟨hp, x, y, z, heap_below hx HB.out⟩, hq⟩) | (obtain ⟨p', e', ⟨hp', x', y', z', hx'⟩, hq'⟩ := hpr; have e6 := e'.symm.trans E4.out; injection e6 with e6; injection e6 with e6; injection e6 with e6; subst e6; with_reducible exact ⟨_, e', ⟨hp', _, _, _, heap_set3 hx' _ _ _⟩, hq'⟩) | (obtain ⟨p', e', ⟨hp', x', y', z', hx'⟩, hq'⟩ := hpr; with_reducible exact ⟨_, e', ⟨hp', _, _, _, heap_set3_other hx' (Ne.symm (hq' _ E5.out)) _ _ _⟩, hq'⟩))
          · (try clear hK)
            simp only [nthF]
            (try simp only [upd, if_true, if_false, Nat.reduceEqDiff, reduceIte])
            first | done | exact fun h => h | exact (fun _ => trivial) | (intro hpr; first | (obtain ⟨p, e5, ⟨hp, x, y, z, hx⟩, hq⟩ := hpr; with_reducible refine ⟨p, e5, ⟨hp, x, y, z, heap_alloc hx _⟩, fun q hq => ?_⟩; have := heap_lt hx; injection hq with hq; injection hq with hq; injection hq with hq; omega) | (obtain ⟨p, e4, ⟨hp, x, y, z, hx⟩, hq⟩ := hpr; with_reducible exact ⟨p, e4, ⟨hp, x, y, z, heap_below hx HB.out⟩, hq⟩) | (obtain ⟨p', e', ⟨hp', x', y', z', hx'⟩, hq'⟩ := hpr; have e6 := e'.symm.trans E5.out; injection e6 with e6; injection e6 with e6; injection e6 with e6; subst e6; with_reducible exact ⟨_, e', ⟨hp', _, _, _, heap_set3 hx' _ _ _⟩, hq'⟩) | (obtain ⟨p', e', ⟨hp', x', y', z', hx'⟩, hq'⟩ := hpr; with_reducible exact ⟨_, e', ⟨hp', _, _, _, heap_set3_other hx' (HQ.out _ e') _ _ _⟩, hq'⟩))
      · refine StepOf.introL (i := 1) rfl (some 64) rfl [0] [63] [0, 2, 4, 5] (by kernel_rfl) ?_
        intro σ aa ww sS sF sU sA K hK
        have f0 : (fun σ _ => σ 0 = .agg #[.int .i64 s, .int .i64 g, .int .i64 i]) σ ww := sF.1
        replace sF := sF.2
        try dsimp only at f0
        clear sF
        have sl63 := AllSlots.cons_who (j := 0) sA (by kernel_rfl)
        replace sA := sA.2
        clear sA
        try (have SA := Lib.hid sS.1; obtain ⟨⟨⟨s1, s2, s3⟩, s4, s5, s6⟩, sB⟩ := sS)
        try (obtain ⟨p, e4, ⟨hp, x, y, z, hx⟩, hq⟩ := f4; rw [e4] at sl6; have c0 : ww.cell? ⟨p, 0, none⟩ = some x := cell_row hx 0; have c1 : ww.cell? ⟨p, 1, none⟩ = some y := cell_row hx 1; have c2 : ww.cell? ⟨p, 2, none⟩ = some z := cell_row hx 2; have r0 := free_row hx 0; have r1 := free_row hx 1; have r2 := free_row hx 2; have HQ := Lib.hid hq; have HX := Lib.hid hx; have E4 := Lib.hid e4; clear hq hx e4)
        try (obtain ⟨p, e5, ⟨hp, x, y, z, hx⟩, hq⟩ := f5; rw [e5] at sl7; have c0 : ww.cell? ⟨p, 0, none⟩ = some x := cell_row hx 0; have c1 : ww.cell? ⟨p, 1, none⟩ = some y := cell_row hx 1; have c2 : ww.cell? ⟨p, 2, none⟩ = some z := cell_row hx 2; have r0 := free_row hx 0; have r1 := free_row hx 1; have r2 := free_row hx 2; have HQ := Lib.hid hq; have HX := Lib.hid hx; have E5 := Lib.hid e5; clear hq hx e5)
        try rw [f0] at sl63
        try go_simp
        first | (go_at_call 8; refine (own_any _ _ _ _).mono ?_; rintro e w2 ⟨rfl, hb2⟩; unfold geomV; have HB := Lib.hid hb2; clear hb2)
        refine Shut.out hK _ _ ?_ ?_ ?_
        · (try clear hK)
          (try dsimp only)
          first | (with_reducible exact ⟨SA.out, sB⟩) | (with_reducible exact ⟨AtTwo.below SA.out HB.out, bnext sB HB.out⟩) | (with_reducible exact ⟨AtTwo.below SA.out ((Below.refl _ _).alloc (Nat.le_refl _) _), sB.alloc sB.size _⟩) | (with_reducible refine ⟨AtTwo.set (AtTwo.set (AtTwo.set SA.out ?_ ?_ _) ?_ ?_ _) ?_ ?_ _, ((sB.setCell ?_ _).setCell ?_ _).setCell ?_ _⟩ <;> (first | (show p ≠ _; omega) | (show _ ≤ p; omega))) | (exact ⟨hA3, hB3.drew⟩)
        · (try clear hK)
          simp only [nthF]
          (try simp only [upd, if_true, if_false, Nat.reduceEqDiff, reduceIte])
          first | done | trivial | rfl
        · refine ⟨?_, ?_, ?_, ?_, trivial⟩
          · (try clear hK)
            simp only [nthF]
            (try simp only [upd, if_true, if_false, Nat.reduceEqDiff, reduceIte])
            first | done | exact fun h => h | exact (fun _ => trivial)
          · (try clear hK)
            simp only [nthF]
            (try simp only [upd, if_true, if_false, Nat.reduceEqDiff, reduceIte])
            first | done | exact fun h => h | exact (fun _ => trivial)
          · (try clear hK)
            simp only [nthF]
            (try simp only [upd, if_true, if_false, Nat.reduceEqDiff, reduceIte])
            first | done | exact fun h => h | exact (fun _ => trivial) | (intro hpr; first | (obtain ⟨p, e5, ⟨hp, x, y, z, hx⟩, hq⟩ := hpr; with_reducible refine ⟨p, e5, ⟨hp, x, y, z, heap_alloc hx _⟩, fun q hq => ?_⟩; have := heap_lt hx; injection hq with hq; injection hq with hq; injection hq with hq; omega) | (obtain ⟨p, e4, ⟨hp, x, y, z, hx⟩, hq⟩ := hpr; with_reducible exact ⟨p, e4, ⟨hp, x, y, z, heap_below hx HB.out⟩, hq⟩) | (obtain ⟨p', e', ⟨hp', x', y', z', hx'⟩, hq'⟩ := hpr; have e6 := e'.symm.trans E4.out; injection e6 with e6; injection e6 with e6; injection e6 with e6; subst e6; with_reducible exact ⟨_, e', ⟨hp', _, _, _, heap_set3 hx' _ _ _⟩, hq'⟩) | (obtain ⟨p', e', ⟨hp', x', y', z', hx'⟩, hq'⟩ := hpr; with_reducible exact ⟨_, e', ⟨hp', _, _, _, heap_set3_other hx' (Ne.symm (hq' _ E5.out)) _ _ _⟩, hq'⟩))
          · (try clear hK)
            simp only [nthF]
            (try simp only [upd, if_true, if_false, Nat.reduceEqDiff, reduceIte])
            first | done | exact fun h => h | exact (fun _ => trivial) | (intro hpr; first | (obtain ⟨p, e5, ⟨hp, x, y, z, hx⟩, hq⟩ := hpr; with_reducible refine ⟨p, e5, ⟨hp, x, y, z, heap_alloc hx _⟩, fun q hq => ?_⟩; have := heap_lt hx; injection hq with hq; injection hq with hq; injection hq with hq; omega) | (obtain ⟨p, e4, ⟨hp, x, y, z, hx⟩, hq⟩ := hpr; with_reducible exact ⟨p, e4, ⟨hp, x, y, z, heap_below hx HB.out⟩, hq⟩) | (obtain ⟨p', e', ⟨hp', x', y', z', hx'⟩, hq'⟩ := hpr; have e6 := e'.symm.trans E5.out; injection e6 with e6; injection e6 with e6; injection e6 with e6; subst e6; with_reducible exact ⟨_, e', ⟨hp', _, _, _, heap_set3 hx' _ _ _⟩, hq'⟩) | (obtain ⟨p', e', ⟨hp', x', y', z', hx'⟩, hq'⟩ := hpr; with_reducible exact ⟨_, e', ⟨hp', _, _, _, heap_set3_other hx' (HQ.out _ e') _ _ _⟩, hq'⟩))
      · refine StepOf.introL (i := 2) rfl (some 65) rfl [] [5] [0, 1, 4, 5] (by kernel_rfl) ?_
        intro σ aa ww sS sF sU sA K hK
        clear sF
        have sl5 := AllSlots.cons_none sA (by kernel_rfl)
        try simp only [List.getElem?_toArray, List.getElem?_cons_succ, List.getElem?_cons_zero] at sl5
        replace sA := sA.2
        clear sA
        try (have SA := Lib.hid sS.1; obtain ⟨⟨⟨s1, s2, s3⟩, s4, s5, s6⟩, sB⟩ := sS)
        try (obtain ⟨p, e4, ⟨hp, x, y, z, hx⟩, hq⟩ := f4; rw [e4] at sl6; have c0 : ww.cell? ⟨p, 0, none⟩ = some x := cell_row hx 0; have c1 : ww.cell? ⟨p, 1, none⟩ = some y := cell_row hx 1; have c2 : ww.cell? ⟨p, 2, none⟩ = some z := cell_row hx 2; have r0 := free_row hx 0; have r1 := free_row hx 1; have r2 := free_row hx 2; have HQ := Lib.hid hq; have HX := Lib.hid hx; have E4 := Lib.hid e4; clear hq hx e4)
        try (obtain ⟨p, e5, ⟨hp, x, y, z, hx⟩, hq⟩ := f5; rw [e5] at sl7; have c0 : ww.cell? ⟨p, 0, none⟩ = some x := cell_row hx 0; have c1 : ww.cell? ⟨p, 1, none⟩ = some y := cell_row hx 1; have c2 : ww.cell? ⟨p, 2, none⟩ = some z := cell_row hx 2; have r0 := free_row hx 0; have r1 := free_row hx 1; have r2 := free_row hx 2; have HQ := Lib.hid hq; have HX := Lib.hid hx; have E5 := Lib.hid e5; clear hq hx e5)
        try go_simp
        refine Shut.out hK _ _ ?_ ?_ ?_
        · (try clear hK)
          (try dsimp only)
          first | (with_reducible exact ⟨SA.out, sB⟩) | (with_reducible exact ⟨AtTwo.below SA.out HB.out, bnext sB HB.out⟩) | (with_reducible exact ⟨AtTwo.below SA.out ((Below.refl _ _).alloc (Nat.le_refl _) _), sB.alloc sB.size _⟩) | (with_reducible refine ⟨AtTwo.set (AtTwo.set (AtTwo.set SA.out ?_ ?_ _) ?_ ?_ _) ?_ ?_ _, ((sB.setCell ?_ _).setCell ?_ _).setCell ?_ _⟩ <;> (first | (show p ≠ _; omega) | (show _ ≤ p; omega))) | (exact ⟨hA3, hB3.drew⟩)
        · (try clear hK)
          simp only [nthF]
          (try simp only [upd, if_true, if_false, Nat.reduceEqDiff, reduceIte])
          first | done | trivial | rfl
        · refine ⟨?_, ?_, ?_, ?_, trivial⟩
          · (try clear hK)
            simp only [nthF]
            (try simp only [upd, if_true, if_false, Nat.reduceEqDiff, reduceIte])
            first | done | exact fun h => h | exact (fun _ => trivial)
          · (try clear hK)
            simp only [nthF]
            (try simp only [upd, if_true, if_false, Nat.reduceEqDiff, reduceIte])
            first | done | exact fun h => h | exact (fun _ => trivial)
          · (try clear hK)
            simp only [nthF]
            (try simp only [upd, if_true, if_false, Nat.reduceEqDiff, reduceIte])
            first | done | exact fun h => h | exact (fun _ => trivial) | (intro hpr; first | (obtain ⟨p, e5, ⟨hp, x, y, z, hx⟩, hq⟩ := hpr; with_reducible refine ⟨p, e5, ⟨hp, x, y, z, heap_alloc hx _⟩, fun q hq => ?_⟩; have := heap_lt hx; injection hq with hq; injection hq with hq; injection hq with hq; omega) | (obtain ⟨p, e4, ⟨hp, x, y, z, hx⟩, hq⟩ := hpr; with_reducible exact ⟨p, e4, ⟨hp, x, y, z, heap_below hx HB.out⟩, hq⟩) | (obtain ⟨p', e', ⟨hp', x', y', z', hx'⟩, hq'⟩ := hpr; have e6 := e'.symm.trans E4.out; injection e6 with e6; injection e6 with e6; injection e6 with e6; subst e6; with_reducible exact ⟨_, e', ⟨hp', _, _, _, heap_set3 hx' _ _ _⟩, hq'⟩) | (obtain ⟨p', e', ⟨hp', x', y', z', hx'⟩, hq'⟩ := hpr; with_reducible exact ⟨_, e', ⟨hp', _, _, _, heap_set3_other hx' (Ne.symm (hq' _ E5.out)) _ _ _⟩, hq'⟩))
          · (try clear hK)
            simp only [nthF]
            (try simp only [upd, if_true, if_false, Nat.reduceEqDiff, reduceIte])
            first | done | exact fun h => h | exact (fun _ => trivial) | (intro hpr; first | (obtain ⟨p, e5, ⟨hp, x, y, z, hx⟩, hq⟩ := hpr; with_reducible refine ⟨p, e5, ⟨hp, x, y, z, heap_alloc hx _⟩, fun q hq => ?_⟩; have := heap_lt hx; injection hq with hq; injection hq with hq; injection hq with hq; omega) | (obtain ⟨p, e4, ⟨hp, x, y, z, hx⟩, hq⟩ := hpr; with_reducible exact ⟨p, e4, ⟨hp, x, y, z, heap_below hx HB.out⟩, hq⟩) | (obtain ⟨p', e', ⟨hp', x', y', z', hx'⟩, hq'⟩ := hpr; have e6 := e'.symm.trans E5.out; injection e6 with e6; injection e6 with e6; injection e6 with e6; subst e6; with_reducible exact ⟨_, e', ⟨hp', _, _, _, heap_set3 hx' _ _ _⟩, hq'⟩) | (obtain ⟨p', e', ⟨hp', x', y', z', hx'⟩, hq'⟩ := hpr; with_reducible exact ⟨_, e', ⟨hp', _, _, _, heap_set3_other hx' (HQ.out _ e') _ _ _⟩, hq'⟩))
      · refine StepOf.introL (i := 3) rfl (some 66) rfl [2, 1, 0] [65] [0, 1, 2, 4, 5] (by kernel_rfl) ?_
        intro σ aa ww sS sF sU sA K hK
        have f2 : (fun σ _ => σ 2 = .agg #[.int .i64 a, .int .i64 b, .int .i64 c]) σ ww := sF.1
        replace sF := sF.2
        try dsimp only at f2
        have f1 : (fun σ _ => σ 1 = .agg #[.int .i64 s, .int .i64 g, .int .i64 i]) σ ww := sF.1
        replace sF := sF.2
        try dsimp only at f1
        have f0 : (fun σ _ => σ 0 = .agg #[.int .i64 s, .int .i64 g, .int .i64 i]) σ ww := sF.1
        replace sF := sF.2
        try dsimp only at f0
        clear sF
        have sl65 := AllSlots.cons_who (j := 2) sA (by kernel_rfl)
        replace sA := sA.2
        clear sA
        try (have SA := Lib.hid sS.1; obtain ⟨⟨⟨s1, s2, s3⟩, s4, s5, s6⟩, sB⟩ := sS)
        try (obtain ⟨p, e4, ⟨hp, x, y, z, hx⟩, hq⟩ := f4; rw [e4] at sl6; have c0 : ww.cell? ⟨p, 0, none⟩ = some x := cell_row hx 0; have c1 : ww.cell? ⟨p, 1, none⟩ = some y := cell_row hx 1; have c2 : ww.cell? ⟨p, 2, none⟩ = some z := cell_row hx 2; have r0 := free_row hx 0; have r1 := free_row hx 1; have r2 := free_row hx 2; have HQ := Lib.hid hq; have HX := Lib.hid hx; have E4 := Lib.hid e4; clear hq hx e4)
        try (obtain ⟨p, e5, ⟨hp, x, y, z, hx⟩, hq⟩ := f5; rw [e5] at sl7; have c0 : ww.cell? ⟨p, 0, none⟩ = some x := cell_row hx 0; have c1 : ww.cell? ⟨p, 1, none⟩ = some y := cell_row hx 1; have c2 : ww.cell? ⟨p, 2, none⟩ = some z := cell_row hx 2; have r0 := free_row hx 0; have r1 := free_row hx 1; have r2 := free_row hx 2; have HQ := Lib.hid hq; have HX := Lib.hid hx; have E5 := Lib.hid e5; clear hq hx e5)
        try rw [f2] at sl65
        try go_simp
        first | (go_at_call 8; refine (own_any _ _ _ _).mono ?_; rintro e w2 ⟨rfl, hb2⟩; unfold geomV; have HB := Lib.hid hb2; clear hb2)
        refine Shut.out hK _ _ ?_ ?_ ?_
        · (try clear hK)
          (try dsimp only)
          first | (with_reducible exact ⟨SA.out, sB⟩) | (with_reducible exact ⟨AtTwo.below SA.out HB.out, bnext sB HB.out⟩) | (with_reducible exact ⟨AtTwo.below SA.out ((Below.refl _ _).alloc (Nat.le_refl _) _), sB.alloc sB.size _⟩) | (with_reducible refine ⟨AtTwo.set (AtTwo.set (AtTwo.set SA.out ?_ ?_ _) ?_ ?_ _) ?_ ?_ _, ((sB.setCell ?_ _).setCell ?_ _).setCell ?_ _⟩ <;> (first | (show p ≠ _; omega) | (show _ ≤ p; omega))) | (exact ⟨hA3, hB3.drew⟩)
        · (try clear hK)
          simp only [nthF]
          (try simp only [upd, if_true, if_false, Nat.reduceEqDiff, reduceIte])
          first | done | trivial | rfl
        · refine ⟨?_, ?_, ?_, ?_, ?_, trivial⟩
          · (try clear hK)
            simp only [nthF]
            (try simp only [upd, if_true, if_false, Nat.reduceEqDiff, reduceIte])
            first | done | exact fun h => h | exact (fun _ => trivial)
          · (try clear hK)
            simp only [nthF]
            (try simp only [upd, if_true, if_false, Nat.reduceEqDiff, reduceIte])
            first | done | exact fun h => h | exact (fun _ => trivial)
          · (try clear hK)
            simp only [nthF]
            (try simp only [upd, if_true, if_false, Nat.reduceEqDiff, reduceIte])
            first | done | exact fun h => h | exact (fun _ => trivial)
          · (try clear hK)
            simp only [nthF]
            (try simp only [upd, if_true, if_false, Nat.reduceEqDiff, reduceIte])
            first | done | exact fun h => h | exact (fun _ => trivial) | (intro hpr; first | (obtain ⟨p, e5, ⟨hp, x, y, z, hx⟩, hq⟩ := hpr; with_reducible refine ⟨p, e5, ⟨hp, x, y, z, heap_alloc hx _⟩, fun q hq => ?_⟩; have := heap_lt hx; injection hq with hq; injection hq with hq; injection hq with hq; omega) | (obtain ⟨p, e4, ⟨hp, x, y, z, hx⟩, hq⟩ := hpr; with_reducible exact ⟨p, e4, ⟨hp, x, y, z, heap_below hx HB.out⟩, hq⟩) | (obtain ⟨p', e', ⟨hp', x', y', z', hx'⟩, hq'⟩ := hpr; have e6 := e'.symm.trans E4.out; injection e6 with e6; injection e6 with e6; injection e6 with e6; subst e6; with_reducible exact ⟨_, e', ⟨hp', _, _, _, heap_set3 hx' _ _ _⟩, hq'⟩) | (obtain ⟨p', e', ⟨hp', x', y', z', hx'⟩, hq'⟩ := hpr; with_reducible exact ⟨_, e', ⟨hp', _, _, _, heap_set3_other hx' (Ne.symm (hq' _ E5.out)) _ _ _⟩, hq'⟩))
          · (try clear hK)
            simp only [nthF]
            (try simp only [upd, if_true, if_false, Nat.reduceEqDiff, reduceIte])
            first | done | exact fun h => h | exact (fun _ => trivial) | (intro hpr; first | (obtain ⟨p, e5, ⟨hp, x, y, z, hx⟩, hq⟩ := hpr; with_reducible refine ⟨p, e5, ⟨hp, x, y, z, heap_alloc hx _⟩, fun q hq => ?_⟩; have := heap_lt hx; injection hq with hq; injection hq with hq; injection hq with hq; omega) | (obtain ⟨p, e4, ⟨hp, x, y, z, hx⟩, hq⟩ := hpr; with_reducible exact ⟨p, e4, ⟨hp, x, y, z, heap_below hx HB.out⟩, hq⟩) | (obtain ⟨p', e', ⟨hp', x', y', z', hx'⟩, hq'⟩ := hpr; have e6 := e'.symm.trans E5.out; injection e6 with e6; injection e6 with e6; injection e6 with e6; subst e6; with_reducible exact ⟨_, e', ⟨hp', _, _, _, heap_set3 hx' _ _ _⟩, hq'⟩) | (obtain ⟨p', e', ⟨hp', x', y', z', hx'⟩, hq'⟩ := hpr; with_reducible exact ⟨_, e', ⟨hp', _, _, _, heap_set3_other hx' (HQ.out _ e') _ _ _⟩, hq'⟩))
      · refine StepOf.introL (i := 4) rfl (some 6) rfl [] [] [0, 1, 2, 3, 5] (by kernel_rfl) ?_
        intro σ aa ww sS sF sU sA K hK
        clear sF
        clear sA
        try (have SA := Lib.hid sS.1; obtain ⟨⟨⟨s1, s2, s3⟩, s4, s5, s6⟩, sB⟩ := sS)
        try (obtain ⟨p, e4, ⟨hp, x, y, z, hx⟩, hq⟩ := f4; rw [e4] at sl6; have c0 : ww.cell? ⟨p, 0, none⟩ = some x := cell_row hx 0; have c1 : ww.cell? ⟨p, 1, none⟩ = some y := cell_row hx 1; have c2 : ww.cell? ⟨p, 2, none⟩ = some z := cell_row hx 2; have r0 := free_row hx 0; have r1 := free_row hx 1; have r2 := free_row hx 2; have HQ := Lib.hid hq; have HX := Lib.hid hx; have E4 := Lib.hid e4; clear hq hx e4)
        try (obtain ⟨p, e5, ⟨hp, x, y, z, hx⟩, hq⟩ := f5; rw [e5] at sl7; have c0 : ww.cell? ⟨p, 0, none⟩ = some x := cell_row hx 0; have c1 : ww.cell? ⟨p, 1, none⟩ = some y := cell_row hx 1; have c2 : ww.cell? ⟨p, 2, none⟩ = some z := cell_row hx 2; have r0 := free_row hx 0; have r1 := free_row hx 1; have r2 := free_row hx 2; have HQ := Lib.hid hq; have HX := Lib.hid hx; have E5 := Lib.hid e5; clear hq hx e5)
        try go_simp
        refine Shut.out hK _ _ ?_ ?_ ?_
        · (try clear hK)
          (try dsimp only)
          first | (with_reducible exact ⟨SA.out, sB⟩) | (with_reducible exact ⟨AtTwo.below SA.out HB.out, bnext sB HB.out⟩) | (with_reducible exact ⟨AtTwo.below SA.out ((Below.refl _ _).alloc (Nat.le_refl _) _), sB.alloc sB.size _⟩) | (with_reducible refine ⟨AtTwo.set (AtTwo.set (AtTwo.set SA.out ?_ ?_ _) ?_ ?_ _) ?_ ?_ _, ((sB.setCell ?_ _).setCell ?_ _).setCell ?_ _⟩ <;> (first | (show p ≠ _; omega) | (show _ ≤ p; omega))) | (exact ⟨hA3, hB3.drew⟩)
        · (try clear hK)
          simp only [nthF]
          (try simp only [upd, if_true, if_false, Nat.reduceEqDiff, reduceIte])
          first | done | trivial | rfl | (with_reducible refine ⟨_, rfl, ⟨World.block_lt_of_cell? _ _ s4, _, _, _, heap_new _ _⟩, fun q hq => ?_⟩; have hU := sU.out.2 5; simp only [nthF] at hU; rcases hU with ⟨p5, e5, ⟨_, _, _, _, hx5⟩, _⟩ | h; (rw [hq] at e5; have := heap_lt hx5; injection e5 with e5; injection e5 with e5; injection e5 with e5; omega); (rw [hq] at h; unfold undef at h; cases h))
        · refine ⟨?_, ?_, ?_, ?_, ?_, trivial⟩
          · (try clear hK)
            simp only [nthF]
            (try simp only [upd, if_true, if_false, Nat.reduceEqDiff, reduceIte])
            first | done | exact fun h => h | exact (fun _ => trivial)
          · (try clear hK)
            simp only [nthF]
            (try simp only [upd, if_true, if_false, Nat.reduceEqDiff, reduceIte])
            first | done | exact fun h => h | exact (fun _ => trivial)
          · (try clear hK)
            simp only [nthF]
            (try simp only [upd, if_true, if_false, Nat.reduceEqDiff, reduceIte])
            first | done | exact fun h => h | exact (fun _ => trivial)
          · (try clear hK)
            simp only [nthF]
            (try simp only [upd, if_true, if_false, Nat.reduceEqDiff, reduceIte])
            first | done | exact fun h => h | exact (fun _ => trivial)
          · (try clear hK)
            simp only [nthF]
            (try simp only [upd, if_true, if_false, Nat.reduceEqDiff, reduceIte])
            first | done | exact fun h => h | exact (fun _ => trivial) | (intro hpr; first | (obtain ⟨p, e5, ⟨hp, x, y, z, hx⟩, hq⟩ := hpr; with_reducible refine ⟨p, e5, ⟨hp, x, y, z, heap_alloc hx _⟩, fun q hq => ?_⟩; have := heap_lt hx; injection hq with hq; injection hq with hq; injection hq with hq; omega) | (obtain ⟨p, e4, ⟨hp, x, y, z, hx⟩, hq⟩ := hpr; with_reducible exact ⟨p, e4, ⟨hp, x, y, z, heap_below hx HB.out⟩, hq⟩) | (obtain ⟨p', e', ⟨hp', x', y', z', hx'⟩, hq'⟩ := hpr; have e6 := e'.symm.trans E5.out; injection e6 with e6; injection e6 with e6; injection e6 with e6; subst e6; with_reducible exact ⟨_, e', ⟨hp', _, _, _, heap_set3 hx' _ _ _⟩, hq'⟩) | (obtain ⟨p', e', ⟨hp', x', y', z', hx'⟩, hq'⟩ := hpr; with_reducible exact ⟨_, e', ⟨hp', _, _, _, heap_set3_other hx' (HQ.out _ e') _ _ _⟩, hq'⟩))
      · refine StepOf.introL (i := 5) rfl (some 7) rfl [] [] [0, 1, 2, 3, 4] (by kernel_rfl) ?_
        intro σ aa ww sS sF sU sA K hK
        clear sF
        clear sA
        try (have SA := Lib.hid sS.1; obtain ⟨⟨⟨s1, s2, s3⟩, s4, s5, s6⟩, sB⟩ := sS)
        try (obtain ⟨p, e4, ⟨hp, x, y, z, hx⟩, hq⟩ := f4; rw [e4] at sl6; have c0 : ww.cell? ⟨p, 0, none⟩ = some x := cell_row hx 0; have c1 : ww.cell? ⟨p, 1, none⟩ = some y := cell_row hx 1; have c2 : ww.cell? ⟨p, 2, none⟩ = some z := cell_row hx 2; have r0 := free_row hx 0; have r1 := free_row hx 1; have r2 := free_row hx 2; have HQ := Lib.hid hq; have HX := Lib.hid hx; have E4 := Lib.hid e4; clear hq hx e4)
        try (obtain ⟨p, e5, ⟨hp, x, y, z, hx⟩, hq⟩ := f5; rw [e5] at sl7; have c0 : ww.cell? ⟨p, 0, none⟩ = some x := cell_row hx 0; have c1 : ww.cell? ⟨p, 1, none⟩ = some y := cell_row hx 1; have c2 : ww.cell? ⟨p, 2, none⟩ = some z := cell_row hx 2; have r0 := free_row hx 0; have r1 := free_row hx 1; have r2 := free_row hx 2; have HQ := Lib.hid hq; have HX := Lib.hid hx; have E5 := Lib.hid e5; clear hq hx e5)
        try go_simp
        refine Shut.out hK _ _ ?_ ?_ ?_
        · (try clear hK)
          (try dsimp only)
          first | (with_reducible exact ⟨SA.out, sB⟩) | (with_reducible exact ⟨AtTwo.below SA.out HB.out, bnext sB HB.out⟩) | (with_reducible exact ⟨AtTwo.below SA.out ((Below.refl _ _).alloc (Nat.le_refl _) _), sB.alloc sB.size _⟩) | (with_reducible refine ⟨AtTwo.set (AtTwo.set (AtTwo.set SA.out ?_ ?_ _) ?_ ?_ _) ?_ ?_ _, ((sB.setCell ?_ _).setCell ?_ _).setCell ?_ _⟩ <;> (first | (show p ≠ _; omega) | (show _ ≤ p; omega))) | (exact ⟨hA3, hB3.drew⟩)
        · (try clear hK)
          simp only [nthF]
          (try simp only [upd, if_true, if_false, Nat.reduceEqDiff, reduceIte])
          first | done | trivial | rfl | (with_reducible refine ⟨_, rfl, ⟨World.block_lt_of_cell? _ _ s4, _, _, _, heap_new _ _⟩, fun q hq => ?_⟩; have hU := sU.out.2 4; simp only [nthF] at hU; rcases hU with ⟨p5, e5, ⟨_, _, _, _, hx5⟩, _⟩ | h; (rw [hq] at e5; have := heap_lt hx5; injection e5 with e5; injection e5 with e5; injection e5 with e5; omega); (rw [hq] at h; unfold undef at h; cases h))
        · refine ⟨?_, ?_, ?_, ?_, ?_, trivial⟩
          · (try clear hK)
            simp only [nthF]
            (try simp only [upd, if_true, if_false, Nat.reduceEqDiff, reduceIte])
            first | done | exact fun h => h | exact (fun _ => trivial)
          · (try clear hK)
            simp only [nthF]
            (try simp only [upd, if_true, if_false, Nat.reduceEqDiff, reduceIte])
            first | done | exact fun h => h | exact (fun _ => trivial)
          · (try clear hK)
            simp only [nthF]
            (try simp only [upd, if_true, if_false, Nat.reduceEqDiff, reduceIte])
            first | done | exact fun h => h | exact (fun _ => trivial)
          · (try clear hK)
            simp only [nthF]
            (try simp only [upd, if_true, if_false, Nat.reduceEqDiff, reduceIte])
            first | done | exact fun h => h | exact (fun _ => trivial)
          · (try clear hK)
            simp only [nthF]
            (try simp only [upd, if_true, if_false, Nat.reduceEqDiff, reduceIte])
            first | done | exact fun h => h | exact (fun _ => trivial) | (intro hpr; first | (obtain ⟨p, e5, ⟨hp, x, y, z, hx⟩, hq⟩ := hpr; with_reducible refine ⟨p, e5, ⟨hp, x, y, z, heap_alloc hx _⟩, fun q hq => ?_⟩; have := heap_lt hx; injection hq with hq; injection hq with hq; injection hq with hq; omega) | (obtain ⟨p, e4, ⟨hp, x, y, z, hx⟩, hq⟩ := hpr; with_reducible exact ⟨p, e4, ⟨hp, x, y, z, heap_below hx HB.out⟩, hq⟩) | (obtain ⟨p', e', ⟨hp', x', y', z', hx'⟩, hq'⟩ := hpr; have e6 := e'.symm.trans E4.out; injection e6 with e6; injection e6 with e6; injection e6 with e6; subst e6; with_reducible exact ⟨_, e', ⟨hp', _, _, _, heap_set3 hx' _ _ _⟩, hq'⟩) | (obtain ⟨p', e', ⟨hp', x', y', z', hx'⟩, hq'⟩ := hpr; with_reducible exact ⟨_, e', ⟨hp', _, _, _, heap_set3_other hx' (Ne.symm (hq' _ E5.out)) _ _ _⟩, hq'⟩))
      · refine StepOf.introL (i := 6) rfl none rfl [4, 1, 3, 0, 5, 2] [6, 64] [0, 1, 2, 3, 4, 5] (by kernel_rfl) ?_
        intro σ aa ww sS sF sU sA K hK
        have f4 : (fun σ w' => ∃ p, σ 4 = .pointer (some ⟨p, 0, none⟩) ∧ Fresh3 w1.heap.size p w' ∧ ∀ q, σ 5 = .pointer (some ⟨q, 0, none⟩) → q ≠ p) σ ww := sF.1
        replace sF := sF.2
        try dsimp only at f4
        have f1 : (fun σ _ => σ 1 = .agg #[.int .i64 s, .int .i64 g, .int .i64 i]) σ ww := sF.1
        replace sF := sF.2
        try dsimp only at f1
        have f3 : (fun σ _ => σ 3 = .agg #[.int .i64 a, .int .i64 b, .int .i64 c]) σ ww := sF.1
        replace sF := sF.2
        try dsimp only at f3
        have f0 : (fun σ _ => σ 0 = .agg #[.int .i64 s, .int .i64 g, .int .i64 i]) σ ww := sF.1
        replace sF := sF.2
        try dsimp only at f0
        have f5 : (fun σ w' => ∃ p, σ 5 = .pointer (some ⟨p, 0, none⟩) ∧ Fresh3 w1.heap.size p w' ∧ ∀ q, σ 4 = .pointer (some ⟨q, 0, none⟩) → q ≠ p) σ ww := sF.1
        replace sF := sF.2
        try dsimp only at f5
        have f2 : (fun σ _ => σ 2 = .agg #[.int .i64 a, .int .i64 b, .int .i64 c]) σ ww := sF.1
        replace sF := sF.2
        try dsimp only at f2
        clear sF
        have sl6 := AllSlots.cons_who (j := 4) sA (by kernel_rfl)
        replace sA := sA.2
        have sl64 := AllSlots.cons_who (j := 1) sA (by kernel_rfl)
        replace sA := sA.2
        clear sA
        try (have SA := Lib.hid sS.1; obtain ⟨⟨⟨s1, s2, s3⟩, s4, s5, s6⟩, sB⟩ := sS)
        try (obtain ⟨p, e4, ⟨hp, x, y, z, hx⟩, hq⟩ := f4; rw [e4] at sl6; have c0 : ww.cell? ⟨p, 0, none⟩ = some x := cell_row hx 0; have c1 : ww.cell? ⟨p, 1, none⟩ = some y := cell_row hx 1; have c2 : ww.cell? ⟨p, 2, none⟩ = some z := cell_row hx 2; have r0 := free_row hx 0; have r1 := free_row hx 1; have r2 := free_row hx 2; have HQ := Lib.hid hq; have HX := Lib.hid hx; have E4 := Lib.hid e4; clear hq hx e4)
        try (obtain ⟨p, e5, ⟨hp, x, y, z, hx⟩, hq⟩ := f5; rw [e5] at sl7; have c0 : ww.cell? ⟨p, 0, none⟩ = some x := cell_row hx 0; have c1 : ww.cell? ⟨p, 1, none⟩ = some y := cell_row hx 1; have c2 : ww.cell? ⟨p, 2, none⟩ = some z := cell_row hx 2; have r0 := free_row hx 0; have r1 := free_row hx 1; have r2 := free_row hx 2; have HQ := Lib.hid hq; have HX := Lib.hid hx; have E5 := Lib.hid e5; clear hq hx e5)
        try rw [f4] at sl6
        try rw [f1] at sl64
        try go_simp
        refine Shut.out hK undef _ ?_ ?_ ?_
        · (try clear hK)
          (try dsimp only)
          first | (with_reducible exact ⟨SA.out, sB⟩) | (with_reducible exact ⟨AtTwo.below SA.out HB.out, bnext sB HB.out⟩) | (with_reducible exact ⟨AtTwo.below SA.out ((Below.refl _ _).alloc (Nat.le_refl _) _), sB.alloc sB.size _⟩) | (with_reducible refine ⟨AtTwo.set (AtTwo.set (AtTwo.set SA.out ?_ ?_ _) ?_ ?_ _) ?_ ?_ _, ((sB.setCell ?_ _).setCell ?_ _).setCell ?_ _⟩ <;> (first | (show p ≠ _; omega) | (show _ ≤ p; omega))) | (exact ⟨hA3, hB3.drew⟩)
        · (try clear hK)
          simp only [nthF]
          (try simp only [upd, if_true, if_false, Nat.reduceEqDiff, reduceIte])
          first | done | trivial | rfl | (with_reducible exact ⟨p, E4.out, ⟨hp, heap_set3 HX.out _ _ _⟩, HQ.out⟩)
        · refine ⟨?_, ?_, ?_, ?_, ?_, ?_, trivial⟩
          · (try clear hK)
            simp only [nthF]
            (try simp only [upd, if_true, if_false, Nat.reduceEqDiff, reduceIte])
            first | done | exact fun h => h | exact (fun _ => trivial)
          · (try clear hK)
            simp only [nthF]
            (try simp only [upd, if_true, if_false, Nat.reduceEqDiff, reduceIte])
            first | done | exact fun h => h | exact (fun _ => trivial)
          · (try clear hK)
            simp only [nthF]
            (try simp only [upd, if_true, if_false, Nat.reduceEqDiff, reduceIte])
            first | done | exact fun h => h | exact (fun _ => trivial)
          · (try clear hK)
            simp only [nthF]
            (try simp only [upd, if_true, if_false, Nat.reduceEqDiff, reduceIte])
            first | done | exact fun h => h | exact (fun _ => trivial)
          · (try clear hK)
            simp only [nthF]
            (try simp only [upd, if_true, if_false, Nat.reduceEqDiff, reduceIte])
            first | done | exact fun h => h | exact (fun _ => trivial) | (intro hpr; first | (obtain ⟨p, e5, ⟨hp, x, y, z, hx⟩, hq⟩ := hpr; with_reducible refine ⟨p, e5, ⟨hp, x, y, z, heap_alloc hx _⟩, fun q hq => ?_⟩; have := heap_lt hx; injection hq with hq; injection hq with hq; injection hq with hq; omega) | (obtain ⟨p, e4, ⟨hp, x, y, z, hx⟩, hq⟩ := hpr; with_reducible exact ⟨p, e4, ⟨hp, x, y, z, heap_below hx HB.out⟩, hq⟩) | (obtain ⟨p', e', ⟨hp', x', y', z', hx'⟩, hq'⟩ := hpr; have e6 := e'.symm.trans E4.out; injection e6 with e6; injection e6 with e6; injection e6 with e6; subst e6; with_reducible exact ⟨_, e', ⟨hp', _, _, _, heap_set3 hx' _ _ _⟩, hq'⟩) | (obtain ⟨p', e', ⟨hp', x', y', z', hx'⟩, hq'⟩ := hpr; with_reducible exact ⟨_, e', ⟨hp', _, _, _, heap_set3_other hx' (Ne.symm (hq' _ E5.out)) _ _ _⟩, hq'⟩))
          · (try clear hK)
            simp only [nthF]
            (try simp only [upd, if_true, if_false, Nat.reduceEqDiff, reduceIte])
            first | done | exact fun h => h | exact (fun _ => trivial) | (intro hpr; first | (obtain ⟨p, e5, ⟨hp, x, y, z, hx⟩, hq⟩ := hpr; with_reducible refine ⟨p, e5, ⟨hp, x, y, z, heap_alloc hx _⟩, fun q hq => ?_⟩; have := heap_lt hx; injection hq with hq; injection hq with hq; injection hq with hq; omega) | (obtain ⟨p, e4, ⟨hp, x, y, z, hx⟩, hq⟩ := hpr; with_reducible exact ⟨p, e4, ⟨hp, x, y, z, heap_below hx HB.out⟩, hq⟩) | (obtain ⟨p', e', ⟨hp', x', y', z', hx'⟩, hq'⟩ := hpr; have e6 := e'.symm.trans E5.out; injection e6 with e6; injection e6 with e6; injection e6 with e6; subst e6; with_reducible exact ⟨_, e', ⟨hp', _, _, _, heap_set3 hx' _ _ _⟩, hq'⟩) | (obtain ⟨p', e', ⟨hp', x', y', z', hx'⟩, hq'⟩ := hpr; with_reducible exact ⟨_, e', ⟨hp', _, _, _, heap_set3_other hx' (HQ.out _ e') _ _ _⟩, hq'⟩))
      · refine StepOf.introL (i := 7) rfl none rfl [5, 3, 6, 0, 1, 2, 4] [7, 66] [0, 1, 2, 3, 4, 5, 6] (by kernel_rfl) ?_
        intro σ aa ww sS sF sU sA K hK
        have f5 : (fun σ w' => ∃ p, σ 5 = .pointer (some ⟨p, 0, none⟩) ∧ Fresh3 w1.heap.size p w' ∧ ∀ q, σ 4 = .pointer (some ⟨q, 0, none⟩) → q ≠ p) σ ww := sF.1
        replace sF := sF.2
        try dsimp only at f5
        have f3 : (fun σ _ => σ 3 = .agg #[.int .i64 a, .int .i64 b, .int .i64 c]) σ ww := sF.1
        replace sF := sF.2
        try dsimp only at f3
        have f6 : (fun σ w' => ∃ p, σ 4 = .pointer (some ⟨p, 0, none⟩) ∧ (w1.heap.size < p ∧ w'.heap[p]? = some (.cells #[.int .i64 s, .int .i64 g, .int .i64 i] 25 (0, 0))) ∧ ∀ q, σ 5 = .pointer (some ⟨q, 0, none⟩) → q ≠ p) σ ww := sF.1
        replace sF := sF.2
        try dsimp only at f6
        have f0 : (fun σ _ => σ 0 = .agg #[.int .i64 s, .int .i64 g, .int .i64 i]) σ ww := sF.1
        replace sF := sF.2
        try dsimp only at f0
        have f1 : (fun σ _ => σ 1 = .agg #[.int .i64 s, .int .i64 g, .int .i64 i]) σ ww := sF.1
        replace sF := sF.2
        try dsimp only at f1
        have f2 : (fun σ _ => σ 2 = .agg #[.int .i64 a, .int .i64 b, .int .i64 c]) σ ww := sF.1
        replace sF := sF.2
        try dsimp only at f2
        have f4 : (fun σ w' => ∃ p, σ 4 = .pointer (some ⟨p, 0, none⟩) ∧ Fresh3 w1.heap.size p w' ∧ ∀ q, σ 5 = .pointer (some ⟨q, 0, none⟩) → q ≠ p) σ ww := sF.1
        replace sF := sF.2
        try dsimp only at f4
        clear sF
        have sl7 := AllSlots.cons_who (j := 5) sA (by kernel_rfl)
        replace sA := sA.2
        have sl66 := AllSlots.cons_who (j := 3) sA (by kernel_rfl)
        replace sA := sA.2
        clear sA
        try (have SA := Lib.hid sS.1; obtain ⟨⟨⟨s1, s2, s3⟩, s4, s5, s6⟩, sB⟩ := sS)
        try (obtain ⟨p, e4, ⟨hp, x, y, z, hx⟩, hq⟩ := f4; rw [e4] at sl6; have c0 : ww.cell? ⟨p, 0, none⟩ = some x := cell_row hx 0; have c1 : ww.cell? ⟨p, 1, none⟩ = some y := cell_row hx 1; have c2 : ww.cell? ⟨p, 2, none⟩ = some z := cell_row hx 2; have r0 := free_row hx 0; have r1 := free_row hx 1; have r2 := free_row hx 2; have HQ := Lib.hid hq; have HX := Lib.hid hx; have E4 := Lib.hid e4; clear hq hx e4)
        try (obtain ⟨p, e5, ⟨hp, x, y, z, hx⟩, hq⟩ := f5; rw [e5] at sl7; have c0 : ww.cell? ⟨p, 0, none⟩ = some x := cell_row hx 0; have c1 : ww.cell? ⟨p, 1, none⟩ = some y := cell_row hx 1; have c2 : ww.cell? ⟨p, 2, none⟩ = some z := cell_row hx 2; have r0 := free_row hx 0; have r1 := free_row hx 1; have r2 := free_row hx 2; have HQ := Lib.hid hq; have HX := Lib.hid hx; have E5 := Lib.hid e5; clear hq hx e5)
        try rw [f5] at sl7
        try rw [f3] at sl66
        try go_simp
        refine Shut.out hK undef _ ?_ ?_ ?_
        · (try clear hK)
          (try dsimp only)
          first | (with_reducible exact ⟨SA.out, sB⟩) | (with_reducible exact ⟨AtTwo.below SA.out HB.out, bnext sB HB.out⟩) | (with_reducible exact ⟨AtTwo.below SA.out ((Below.refl _ _).alloc (Nat.le_refl _) _), sB.alloc sB.size _⟩) | (with_reducible refine ⟨AtTwo.set (AtTwo.set (AtTwo.set SA.out ?_ ?_ _) ?_ ?_ _) ?_ ?_ _, ((sB.setCell ?_ _).setCell ?_ _).setCell ?_ _⟩ <;> (first | (show p ≠ _; omega) | (show _ ≤ p; omega))) | (exact ⟨hA3, hB3.drew⟩)
        · (try clear hK)
          simp only [nthF]
          (try simp only [upd, if_true, if_false, Nat.reduceEqDiff, reduceIte])
          first | done | trivial | rfl | (with_reducible exact ⟨p, E5.out, hp, heap_set3 HX.out _ _ _⟩)
        · refine ⟨?_, ?_, ?_, ?_, ?_, ?_, ?_, trivial⟩
          · (try clear hK)
            simp only [nthF]
            (try simp only [upd, if_true, if_false, Nat.reduceEqDiff, reduceIte])
            first | done | exact fun h => h | exact (fun _ => trivial)
          · (try clear hK)
            simp only [nthF]
            (try simp only [upd, if_true, if_false, Nat.reduceEqDiff, reduceIte])
            first | done | exact fun h => h | exact (fun _ => trivial)
          · (try clear hK)
            simp only [nthF]
            (try simp only [upd, if_true, if_false, Nat.reduceEqDiff, reduceIte])
            first | done | exact fun h => h | exact (fun _ => trivial)
          · (try clear hK)
            simp only [nthF]
            (try simp only [upd, if_true, if_false, Nat.reduceEqDiff, reduceIte])
            first | done | exact fun h => h | exact (fun _ => trivial)
          · (try clear hK)
            simp only [nthF]
            (try simp only [upd, if_true, if_false, Nat.reduceEqDiff, reduceIte])
            first | done | exact fun h => h | exact (fun _ => trivial) | (intro hpr; first | (obtain ⟨p, e5, ⟨hp, x, y, z, hx⟩, hq⟩ := hpr; with_reducible refine ⟨p, e5, ⟨hp, x, y, z, heap_alloc hx _⟩, fun q hq => ?_⟩; have := heap_lt hx; injection hq with hq; injection hq with hq; injection hq with hq; omega) | (obtain ⟨p, e4, ⟨hp, x, y, z, hx⟩, hq⟩ := hpr; with_reducible exact ⟨p, e4, ⟨hp, x, y, z, heap_below hx HB.out⟩, hq⟩) | (obtain ⟨p', e', ⟨hp', x', y', z', hx'⟩, hq'⟩ := hpr; have e6 := e'.symm.trans E4.out; injection e6 with e6; injection e6 with e6; injection e6 with e6; subst e6; with_reducible exact ⟨_, e', ⟨hp', _, _, _, heap_set3 hx' _ _ _⟩, hq'⟩) | (obtain ⟨p', e', ⟨hp', x', y', z', hx'⟩, hq'⟩ := hpr; with_reducible exact ⟨_, e', ⟨hp', _, _, _, heap_set3_other hx' (Ne.symm (hq' _ E5.out)) _ _ _⟩, hq'⟩))
          · (try clear hK)
            simp only [nthF]
            (try simp only [upd, if_true, if_false, Nat.reduceEqDiff, reduceIte])
            first | done | exact fun h => h | exact (fun _ => trivial) | (intro hpr; first | (obtain ⟨p, e5, ⟨hp, x, y, z, hx⟩, hq⟩ := hpr; with_reducible refine ⟨p, e5, ⟨hp, x, y, z, heap_alloc hx _⟩, fun q hq => ?_⟩; have := heap_lt hx; injection hq with hq; injection hq with hq; injection hq with hq; omega) | (obtain ⟨p, e4, ⟨hp, x, y, z, hx⟩, hq⟩ := hpr; with_reducible exact ⟨p, e4, ⟨hp, x, y, z, heap_below hx HB.out⟩, hq⟩) | (obtain ⟨p', e', ⟨hp', x', y', z', hx'⟩, hq'⟩ := hpr; have e6 := e'.symm.trans E5.out; injection e6 with e6; injection e6 with e6; injection e6 with e6; subst e6; with_reducible exact ⟨_, e', ⟨hp', _, _, _, heap_set3 hx' _ _ _⟩, hq'⟩) | (obtain ⟨p', e', ⟨hp', x', y', z', hx'⟩, hq'⟩ := hpr; with_reducible exact ⟨_, e', ⟨hp', _, _, _, heap_set3_other hx' (HQ.out _ e') _ _ _⟩, hq'⟩))
          · (try clear hK)
            simp only [nthF]
            (try simp only [upd, if_true, if_false, Nat.reduceEqDiff, reduceIte])
            first | done | exact fun h => h | exact (fun _ => trivial) | (intro hpr; first | (obtain ⟨p, e4, ⟨hp, hx⟩, hq⟩ := hpr; with_reducible exact ⟨p, e4, ⟨hp, heap_below hx HB.out⟩, hq⟩) | (obtain ⟨p', e', ⟨hp', hx'⟩, hq'⟩ := hpr; with_reducible exact ⟨_, e', ⟨hp', heap_set3_other hx' (Ne.symm (hq' _ E5.out)) _ _ _⟩, hq'⟩))
    intro σ wE hE fE
    have f7 : (fun σ w' => ∃ p, σ 5 = .pointer (some ⟨p, 0, none⟩) ∧ (w1.heap.size < p ∧ w'.heap[p]? = some (.cells #[.int .i64 a, .int .i64 b, .int .i64 c] 25 (0, 0)))) σ wE := fE.2
    replace fE := fE.1
    try dsimp only at f7
    have f6 : (fun σ w' => ∃ p, σ 4 = .pointer (some ⟨p, 0, none⟩) ∧ (w1.heap.size < p ∧ w'.heap[p]? = some (.cells #[.int .i64 s, .int .i64 g, .int .i64 i] 25 (0, 0))) ∧ ∀ q, σ 5 = .pointer (some ⟨q, 0, none⟩) → q ≠ p) σ wE := fE.2
    replace fE := fE.1
    try dsimp only at f6
    have f5 : (fun σ w' => ∃ p, σ 5 = .pointer (some ⟨p, 0, none⟩) ∧ Fresh3 w1.heap.size p w' ∧ ∀ q, σ 4 = .pointer (some ⟨q, 0, none⟩) → q ≠ p) σ wE := fE.2
    replace fE := fE.1
    try dsimp only at f5
    have f4 : (fun σ w' => ∃ p, σ 4 = .pointer (some ⟨p, 0, none⟩) ∧ Fresh3 w1.heap.size p w' ∧ ∀ q, σ 5 = .pointer (some ⟨q, 0, none⟩) → q ≠ p) σ wE := fE.2
    replace fE := fE.1
    try dsimp only at f4
    have f3 : (fun σ _ => σ 3 = .agg #[.int .i64 a, .int .i64 b, .int .i64 c]) σ wE := fE.2
    replace fE := fE.1
    try dsimp only at f3
    have f2 : (fun σ _ => σ 2 = .agg #[.int .i64 a, .int .i64 b, .int .i64 c]) σ wE := fE.2
    replace fE := fE.1
    try dsimp only at f2
    have f1 : (fun σ _ => σ 1 = .agg #[.int .i64 s, .int .i64 g, .int .i64 i]) σ wE := fE.2
    replace fE := fE.1
    try dsimp only at f1
    have f0 : (fun σ _ => σ 0 = .agg #[.int .i64 s, .int .i64 g, .int .i64 i]) σ wE := fE.2
    replace fE := fE.1
    try dsimp only at f0
    clear fE
    simp only [fillAll, List.getElem?_toArray, List.getElem?_cons_succ, List.getElem?_cons_zero, Option.bind_some, List.setIfInBounds_toArray, List.set_cons_zero, List.set_cons_succ]
    obtain ⟨p, e4, ⟨hp, hx⟩, hpq⟩ := f6
    obtain ⟨q, e5, hq, hy⟩ := f7
    have hBE := hE.2
    have hne := hpq q e5
    have hAE : AtTwo p q s g i a b c wE := ⟨⟨cell_row hx 0, cell_row hx 1, cell_row hx 2⟩, cell_row hy 0, cell_row hy 1, cell_row hy 2⟩
    have k1 := hAE.1.1
    have k2 := hAE.1.2.1
    have k3 := hAE.1.2.2
    have k4 := hAE.2.1
    have k5 := hAE.2.2.1
    have k6 := hAE.2.2.2
    rw [e4, e5]
    clear f0 f1 f2 f3 f4 f5 hE e4 e5 hx hy hpq hA3 hB3 hne
    go_upto_region 10 with (fail)
    have l1 : (0 : Int) ≤ s := by omega
    have hin2 : gIn a b c = true := by simp [gIn]; omega
    have hr1 : gRoom s g i ≤ gRoom a b c := room_mono la.1 h3 lb.1 lc.2
    have hr2 : 8 ≤ gRoom a b c := Nat.le_trans HR.out hr1
    have hr3 : gRoom a b c = gMost a b c * gCap b := rfl
    have hm : 2 * gMost a b c < a := by
      have hpos : 0 < gMost a b c := by
        rcases Nat.eq_zero_or_pos (gMost a b c) with h | h
        · rw [hr3, h, Nat.zero_mul] at hr2; omega
        · exact h
      unfold gMost at hpos ⊢
      omega
    have HIN2 := Lib.hid hin2
    have HR2 := Lib.hid hr2
    have hge : decide (((gRoom s g i : Nat) : Int) ≤ ((gRoom a b c : Nat) : Int)) = true := decide_eq_true (by omega)
    have hcap : gCap b ≤ 2000 := by unfold gCap; omega
    have hle : gRoom a b c ≤ 400000 := by
      rw [hr3]
      exact Nat.le_trans (Nat.mul_le_mul (show gMost a b c ≤ 200 by omega) hcap) (by decide)
    have hwm : IntKind.i64.wrap (((gMost a b c : Nat) : Int) * ((gCap b : Nat) : Int)) = ((gRoom a b c : Nat) : Int) := by
      rw [← Int.natCast_mul, ← hr3]; exact IntWalk.i64_in _ (by omega)
    have heq : (((gRoom a b c : Nat) : Int) == ((gRoom a b c : Nat) : Int)) = true := by simp
    have hw2 : IntKind.i64.wrap (2 * ((gMost a b c : Nat) : Int)) = 2 * ((gMost a b c : Nat) : Int) := IntWalk.i64_in _ (by omega)
    have hlt : decide (2 * ((gMost a b c : Nat) : Int) < (a : Int)) = true := decide_eq_true (by omega)
    have hge2 : (((gRoom s g i : Nat) : Int) ≤ ((gRoom a b c : Nat) : Int)) := by omega
    have hge3 : decide (gRoom s g i ≤ gRoom a b c) = true := decide_eq_true hr1
    have hlt2 : (2 * ((gMost a b c : Nat) : Int) < (a : Int)) := by omega
    clear hin2 hr2 hr3 hle hcap hm
    go_region_held3 (fun w' => (w'.cell? ⟨p, 0, none⟩ = some (.int .i64 s) ∧ w'.cell? ⟨p, 1, none⟩ = some (.int .i64 g) ∧ w'.cell? ⟨p, 2, none⟩ = some (.int .i64 i)) ∧ (w'.cell? ⟨q, 0, none⟩ = some (.int .i64 a) ∧ w'.cell? ⟨q, 1, none⟩ = some (.int .i64 b) ∧ w'.cell? ⟨q, 2, none⟩ = some (.int .i64 c))) (first | exact hAE | exact AtTwo.below ‹_› ‹_›)
      (first
        | (go_at_call 9; refine (check_in a b c _ HIN2.out).mono ?_; rintro e x1 ⟨rfl, k1⟩; rw [if_pos HR2.out])
        | (go_at_call 19; first | (refine (room_any s g i _ (by omega) (by omega) (by omega) (by omega)).mono ?_; rintro e x2 ⟨rfl, k2⟩) | (refine (room_any a b c _ (by omega) (by omega) (by omega) (by omega)).mono ?_; rintro e x2 ⟨rfl, k2⟩))
        | (go_at_call 17; refine (most_any a b c _ (by omega) (by omega) (by omega) (by omega)).mono ?_; rintro e x11 ⟨rfl, k11⟩)
        | (go_at_call 11; refine (cap_any _ _ b _ (by omega)).mono ?_; rintro e x2 ⟨rfl, k2⟩))
    go_wp2
    go_ret
    exact ⟨rfl, by repeat (first | exact hBE.drew | refine bnext ?_ ‹_›)⟩
  all_goals
    intros
    go_enter Try.func4, Try.ntmps4
    go_wp2_with (first
      | (go_at_call 7; refine (awake04 _).mono ?_; rintro e w1 ⟨rfl, hb1⟩; have hA1 := hA.below hb1; have p1 := hA1.1; have p2 := hA1.2.1; have p3 := hA1.2.2; obtain ⟨hc, hf⟩ := bcell hb1; have hz : w.heap.size + 1 < w1.heap.size := (by have := hb1.size; simp at this; omega); have hz0 : w.heap.size < w1.heap.size := by omega)
      | (go_at_call 8; refine (own_any s g i _).mono ?_; rintro e w2 ⟨rfl, hb2⟩; unfold geomV; obtain ⟨hc2, hf2⟩ := bcell hb2; have hz2 : w1.heap.size < w2.heap.size := (by have := hb2.size; simp at this; omega))
      | (go_at_call 9; refine (check_in s g i _ HIN.out).mono ?_; rintro e w3 ⟨rfl, hb3⟩; rw [if_pos HR.out]; obtain ⟨hc3, hf3⟩ := bcell hb3; have hz3 : w1.heap.size < w3.heap.size := Nat.lt_of_lt_of_le hz2 hb3.size))
    go_ret
    exact ⟨rfl, bnext (bnext ((bnext hbox hb1).alloc (by omega) _) hb2) hb3⟩
end Go.Proofs.Yteepgdfjbpfakaa
