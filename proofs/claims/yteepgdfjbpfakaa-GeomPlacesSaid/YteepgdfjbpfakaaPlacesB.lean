/-
  GeomPlaces, plain: the law answers true.
-/
import Derived.Test.YteepgdfjbpfakaaPlaces
namespace Go.Proofs.Yteepgdfjbpfakaa.GP
open Go.RowKit Go.Proofs.YteepgdfjbpfakaaW.PrintWords Go.Proofs.YteepgdfjbpfakaaW.PrintLast Go.Proofs.YteepgdfjbpfakaaW.PrintMore
set_option linter.unusedVariables false
set_option linter.unusedSimpArgs false
section
variable {s g i : Nat}
theorem where_no (h : Bd s g i) (x : Int) (hx : x < FN s i ∨ (NN s g i : Int) ≤ x) : g_Where.f s g i x = some (0, 0, 0, false) := by
  have := sg_le h
  have := FN_le h
  unfold g_Where.f
  rw [gfirst h, Option.bind_some, gsectors h, Option.bind_some]
  rw [w64 (x := (NN s g i : Int) - 1) (by unfold NN; omega) (by unfold NN; omega), among_no (by omega), Option.bind_some]
  rfl
theorem where_sum (h : Bd s g i) (n : Nat) (hn : n < s * g) : g_Where.f s g i ((FN s i + 9 * n : Nat) : Int) = some (0, 0, 0, false) := by
  have := sg_le h
  have := FN_le h
  unfold g_Where.f
  rw [gfirst h, Option.bind_some, gsectors h, Option.bind_some]
  rw [w64 (x := (NN s g i : Int) - 1) (by unfold NN; omega) (by unfold NN; omega), among_yes (by omega) (by unfold NN; omega), Option.bind_some, if_pos rfl, Option.bind_some]
  rw [w64 (x := ((FN s i + 9 * n : Nat) : Int) - (FN s i : Int)) (by omega) (by omega)]
  rw [show ((FN s i + 9 * n : Nat) : Int) - (FN s i : Int) = ((9 * n : Nat) : Int) by omega]
  rw [show Int.tmod ((9 * n : Nat) : Int) 9 = ((9 * n % 9 : Nat) : Int) from rfl, show 9 * n % 9 = 0 by omega, w64 (x := ((0 : Nat) : Int) - 1) (by omega) (by omega), if_pos (by omega)]
theorem where_blk (h : Bd s g i) (a b j : Nat) (ha : a < s) (hb : b < g) (hj : j < 8) (hn : a * g + b < s * g) : g_Where.f s g i ((FN s i + 9 * (a * g + b) + 1 + j : Nat) : Int) = some ((a : Int), (b : Int), (j : Int), true) := by
  have := sg_le h
  have := FN_le h
  have h4 := h.g1
  have h5 := h.s2
  have h6 := h.g2
  unfold g_Where.f
  rw [gfirst h, Option.bind_some, gsectors h, Option.bind_some]
  rw [w64 (x := (NN s g i : Int) - 1) (by unfold NN; omega) (by unfold NN; omega), among_yes (by omega) (by unfold NN; omega), Option.bind_some, if_pos rfl, Option.bind_some]
  rw [w64 (x := ((FN s i + 9 * (a * g + b) + 1 + j : Nat) : Int) - (FN s i : Int)) (by omega) (by omega)]
  rw [show ((FN s i + 9 * (a * g + b) + 1 + j : Nat) : Int) - (FN s i : Int) = ((9 * (a * g + b) + 1 + j : Nat) : Int) by omega]
  rw [show Int.tmod ((9 * (a * g + b) + 1 + j : Nat) : Int) 9 = (((9 * (a * g + b) + 1 + j) % 9 : Nat) : Int) from rfl, show (9 * (a * g + b) + 1 + j) % 9 = 1 + j by omega]
  rw [show Int.tdiv ((9 * (a * g + b) + 1 + j : Nat) : Int) 9 = (((9 * (a * g + b) + 1 + j) / 9 : Nat) : Int) from rfl, show (9 * (a * g + b) + 1 + j) / 9 = a * g + b by omega]
  rw [w64 (x := ((1 + j : Nat) : Int) - 1) (by omega) (by omega), if_neg (by omega), if_neg (by omega), w64 (x := ((a * g + b : Nat) : Int)) (by omega) (by omega)]
  rw [show Int.tdiv ((a * g + b : Nat) : Int) (g : Int) = (((a * g + b) / g : Nat) : Int) from rfl, show Int.tmod ((a * g + b : Nat) : Int) (g : Int) = (((a * g + b) % g : Nat) : Int) from rfl, (dm g a b hb).1, (dm g a b hb).2]
  rw [w64 (by omega) (by omega)]
  congr 4
  omega
theorem region_is (h : Bd s g i) (n : Nat) (hn : n < 2) : g_Region.f s g i n = some ((1 + n * (1 + chN i + tbN s) : Nat) : Int) := by
  have := ch_le h
  have := tb_le h
  unfold g_Region.f
  rw [among_yes (by omega) (by omega), Option.bind_some, if_pos rfl, gch h, Option.bind_some, gtb h, Option.bind_some]
  rw [w64 (x := 1 + (chN i : Int)) (by omega) (by omega), w64 (x := 1 + (chN i : Int) + (tbN s : Int)) (by omega) (by omega)]
  have hc : n = 0 ∨ n = 1 := by omega
  rcases hc with rfl | rfl
  · rw [show ((0 : Nat) : Int) * (1 + (chN i : Int) + (tbN s : Int)) = 0 by simp, w64 (x := (0 : Int)) (by omega) (by omega), w64 (by omega) (by omega)]
    simp
  · rw [show ((1 : Nat) : Int) * (1 + (chN i : Int) + (tbN s : Int)) = 1 + (chN i : Int) + (tbN s : Int) by simp, w64 (x := 1 + (chN i : Int) + (tbN s : Int)) (by omega) (by omega), w64 (by omega) (by omega)]
    congr 1; omega
theorem region_no (h : Bd s g i) (x : Int) (hx : x < 0 ∨ 1 < x) : g_Region.f s g i x = some (-1) := by
  unfold g_Region.f
  rw [among_no (by omega), Option.bind_some]; rfl
theorem sum_is (h : Bd s g i) (a b : Nat) (ha : a < s) (hb : b < g) (hn : a * g + b < s * g) : g_Summary.f s g i a b = some ((FN s i + 9 * (a * g + b) : Nat) : Int) := by
  have := sg_le h
  have := FN_le h
  have := h.s2
  have := h.g2
  unfold g_Summary.f
  rw [w64 (x := (s : Int) - 1) (by omega) (by omega), among_yes (by omega) (by omega), Option.bind_some, if_pos rfl, w64 (x := (g : Int) - 1) (by omega) (by omega), among_yes (by omega) (by omega), Option.bind_some, if_pos rfl, gfirst h, Option.bind_some]
  rw [show ((a : Int) * (g : Int)) = ((a * g : Nat) : Int) by simp]
  rw [w64 (x := ((a * g : Nat) : Int)) (by omega) (by omega), w64 (x := ((a * g : Nat) : Int) + (b : Int)) (by omega) (by omega), w64 (x := (((a * g : Nat) : Int) + (b : Int)) * 9) (by omega) (by omega), w64 (by omega) (by omega)]
  congr 1; omega
theorem sum_no (h : Bd s g i) (x y : Int) (hx : x < 0 ∨ (s : Int) ≤ x ∨ y < 0 ∨ (g : Int) ≤ y) : g_Summary.f s g i x y = some (-1) := by
  have := h.s2
  have := h.g2
  have := h.s1
  have := h.g1
  unfold g_Summary.f
  rw [w64 (x := (s : Int) - 1) (by omega) (by omega)]
  by_cases hq : 0 ≤ x ∧ x < s
  · rw [among_yes (by omega) (by omega), Option.bind_some, if_pos rfl, w64 (x := (g : Int) - 1) (by omega) (by omega), among_no (by omega), Option.bind_some]; rfl
  · rw [among_no (by omega), Option.bind_some]; rfl
theorem blk_is (h : Bd s g i) (a b j : Nat) (ha : a < s) (hb : b < g) (hj : j < 8) (hn : a * g + b < s * g) : g_Block.f s g i a b j = some ((FN s i + 9 * (a * g + b) + 1 + j : Nat) : Int) := by
  have := sg_le h
  have := FN_le h
  unfold g_Block.f
  rw [sum_is h a b ha hb hn, Option.bind_some, if_neg (by omega), among_yes (by omega) (by omega), Option.bind_some, if_pos rfl]
  rw [w64 (x := ((FN s i + 9 * (a * g + b) : Nat) : Int) + 1) (by omega) (by omega), w64 (by omega) (by omega)]
  congr 1
theorem blk_no1 (h : Bd s g i) : g_Block.f s g i 0 0 8 = some (-1) := by
  have := h.s1
  have := h.g1
  have := FN_le h
  have e : g_Summary.f s g i 0 0 = some (FN s i : Int) := by
    have := sum_is h 0 0 (by omega) (by omega) (by rw [Nat.zero_mul, Nat.zero_add]; exact Nat.mul_pos (by omega) (by omega))
    simpa using this
  unfold g_Block.f
  rw [e, Option.bind_some, if_neg (by omega), among_no (by omega), Option.bind_some]; rfl
theorem blk_no2 (h : Bd s g i) : g_Block.f s g i (-1) 0 0 = some (-1) := by
  unfold g_Block.f
  rw [sum_no h (-1) 0 (by omega), Option.bind_some]; rfl
theorem rblk_is (h : Bd s g i) (k : Nat) (hk : 30 ≤ k) (a b j : Nat) (ha : a < s) (hb : b < g) (hj : j < 8) (hn : a * g + b < s * g) : r4Block.f k s g i a b j = some ((FN s i + 9 * (a * g + b) + 1 + j : Nat) : Int) := by
  have := sg_le h
  have := FN_le h
  have := ch_le h
  have := tb_le h
  have := h.g2
  unfold r4Block.f r4First.f
  rw [rch h k hk, Option.bind_some, rtb h k hk, Option.bind_some, Option.bind_some]
  rw [show ((a : Int) * (g : Int)) = ((a * g : Nat) : Int) by simp]
  have hF : FN s i = 3 + 2 * chN i + 2 * tbN s := rfl
  rw [w64 (x := 2 * (chN i : Int)) (by omega) (by omega), w64 (x := 3 + 2 * (chN i : Int)) (by omega) (by omega), w64 (x := 2 * (tbN s : Int)) (by omega) (by omega), w64 (x := 3 + 2 * (chN i : Int) + 2 * (tbN s : Int)) (by omega) (by omega)]
  rw [w64 (x := ((a * g : Nat) : Int)) (by omega) (by omega), w64 (x := ((a * g : Nat) : Int) + (b : Int)) (by omega) (by omega), w64 (x := 9 * (((a * g : Nat) : Int) + (b : Int))) (by omega) (by omega)]
  rw [w64 (x := 3 + 2 * (chN i : Int) + 2 * (tbN s : Int) + 9 * (((a * g : Nat) : Int) + (b : Int))) (by omega) (by omega), w64 (x := 3 + 2 * (chN i : Int) + 2 * (tbN s : Int) + 9 * (((a * g : Nat) : Int) + (b : Int)) + 1) (by omega) (by omega), w64 (by omega) (by omega)]
  congr 1
/-- What sector n is, told by cases. -/
theorem sector_cases (h : Bd s g i) (n : Nat) (hn : n < NN s g i) :
    n = 0 ∨ (∃ r j, r < 2 ∧ j < 1 + chN i + tbN s ∧ n = 1 + r * (1 + chN i + tbN s) + j) ∨ (∃ a b, a < s ∧ b < g ∧ a * g + b < s * g ∧ n = FN s i + 9 * (a * g + b)) ∨
      (∃ a b j, a < s ∧ b < g ∧ j < 8 ∧ a * g + b < s * g ∧ n = FN s i + 9 * (a * g + b) + 1 + j) := by
  by_cases h0 : n = 0
  · exact .inl h0
  by_cases h1 : n < FN s i
  · refine .inr (.inl ?_)
    have hF : FN s i = 1 + 2 * (1 + chN i + tbN s) := by unfold FN; omega
    by_cases h2 : n < 1 + (1 + chN i + tbN s)
    · exact ⟨0, n - 1, by omega, by omega, by omega⟩
    · exact ⟨1, n - 1 - (1 + chN i + tbN s), by omega, by omega, by omega⟩
  · obtain ⟨q, hq⟩ : ∃ q, q = (n - FN s i) / 9 := ⟨_, rfl⟩
    have hg := h.g1
    have hqs : q < s * g := by unfold NN at hn; omega
    have ha : q / g < s := Nat.div_lt_of_lt_mul (by rw [Nat.mul_comm]; exact hqs)
    have hb : q % g < g := Nat.mod_lt _ (by omega)
    have hd : q / g * g + q % g = q := by have := Nat.div_add_mod q g; rw [Nat.mul_comm] at this; exact this
    by_cases h3 : (n - FN s i) % 9 = 0
    · exact .inr (.inr (.inl ⟨q / g, q % g, ha, hb, by rw [hd]; exact hqs, by rw [hd]; omega⟩))
    · exact .inr (.inr (.inr ⟨q / g, q % g, (n - FN s i) % 9 - 1, ha, hb, by omega, by rw [hd]; exact hqs, by rw [hd]; omega⟩))
theorem rd_pL (s g i n m : Nat) (h : n < m) : rd_T40 (pL s g i m) (n : Int) = pAt s g i n := by
  unfold rd_T40 pL
  rw [show ((n : Int)).toNat = n by omega, List.getD_eq_getElem?_getD, List.getElem?_map, List.getElem?_range h]
  rfl
theorem NN_le (h : Bd s g i) (h12 : s * g ≤ 1200) : NN s g i ≤ 10871 := by
  have := FN_le h
  unfold NN; omega
theorem pl_cells {w : World} {A : Option Addr} {N : Nat} (hC : Kd.C k40 w A N (pL s g i N)) (hN : 0 < N) : ∃ b o, A = some ⟨b, o, none⟩ ∧ ∀ n, n < N → w.cell? ⟨b, o + n * 6, none⟩ = some (.int .i64 (pAt s g i n).f0) ∧ w.cell? ⟨b, o + n * 6 + 1, none⟩ = some (.int .i64 (pAt s g i n).f1) ∧
    w.cell? ⟨b, o + n * 6 + 2, none⟩ = some (.int .i64 (pAt s g i n).f2) ∧ w.cell? ⟨b, o + n * 6 + 3, none⟩ = some (.int .i64 (pAt s g i n).f3) ∧ w.cell? ⟨b, o + n * 6 + 4, none⟩ = some (.int .i64 (pAt s g i n).f4) ∧ w.cell? ⟨b, o + n * 6 + 5, none⟩ = some (.int .i64 (pAt s g i n).f5) := by
  obtain ⟨ad, rfl, e0, _⟩ := at_T40 hC 0 (by omega) (by omega)
  obtain ⟨b, o, sp⟩ := ad
  cases sp with
  | some q =>
    exfalso
    have e1 : (⟨b, o, some q⟩ : Addr).add (((0 : Int).toNat) * 6) = ⟨b, o, some q⟩ := by simp [Addr.add]
    rw [e1] at e0
    unfold World.cell? at e0
    split at e0 <;> simp at e0
  | none =>
    refine ⟨b, o, rfl, fun n hn => ?_⟩
    obtain ⟨ad, ha, q⟩ := at_T40 hC (n : Int) (by omega) (by omega)
    obtain rfl := Option.some.inj ha
    rw [rd_pL s g i n _ hn] at q
    rw [show ((n : Int)).toNat = n by omega] at q
    simp only [Go.Proofs.Yteepgdfjbpfakaa.add_at] at q
    exact q
end
theorem may_is (s g i : Int) : ∃ k b, r4May.f k s g i = some b ∧ (b = true → ∃ s' g' i' : Nat, s = s' ∧ g = g' ∧ i = i' ∧ Bd s' g' i') := by
  refine ⟨30, ?_⟩
  unfold r4May.f
  by_cases h1 : s ≥ 8
  rotate_left
  · rw [if_neg h1]; exact ⟨false, rfl, fun h => by cases h⟩
  rw [if_pos h1]
  by_cases h2 : s ≤ 200
  rotate_left
  · rw [if_neg h2]; exact ⟨false, rfl, fun h => by cases h⟩
  rw [if_pos h2]
  by_cases h3 : g ≥ 1
  rotate_left
  · rw [if_neg h3]; exact ⟨false, rfl, fun h => by cases h⟩
  rw [if_pos h3]
  by_cases h4 : g ≤ 32
  rotate_left
  · rw [if_neg h4]; exact ⟨false, rfl, fun h => by cases h⟩
  rw [if_pos h4]
  by_cases h5 : i ≥ 2
  rotate_left
  · rw [if_neg h5]; exact ⟨false, rfl, fun h => by cases h⟩
  rw [if_pos h5]
  by_cases h6 : i ≤ 200
  rotate_left
  · rw [if_neg h6]; exact ⟨false, rfl, fun h => by cases h⟩
  rw [if_pos h6]
  obtain ⟨s, rfl⟩ := Int.eq_ofNat_of_zero_le (show 0 ≤ s by omega)
  obtain ⟨g, rfl⟩ := Int.eq_ofNat_of_zero_le (show 0 ≤ g by omega)
  obtain ⟨i, rfl⟩ := Int.eq_ofNat_of_zero_le (show 0 ≤ i by omega)
  have h : Bd s g i := ⟨by omega, by omega, by omega, by omega, by omega, by omega⟩
  have hc := ch_le h
  have hu : upN (chN i) (8 * g) ≤ 20 := by
    unfold upN
    rw [Nat.div_le_iff_le_mul_add_pred (by omega)]
    have : 8 * g * 20 = 160 * g := by omega
    omega
  have hup := up_l0 (chN i) (8 * g) (by omega) (by omega) (by omega) (upN (chN i) (8 * g)) 0 30 (by omega) (by omega)
  have hcap : r4Cap.f s g i = some ((8 * g : Nat) : Int) := by
    unfold r4Cap.f
    rw [w64 (by omega) (by omega)]
    congr 1
  have hm : ∃ m, r4Most.f 30 s g i = some m := by
    unfold r4Most.f
    rw [rch h 30 (by omega), Option.bind_some, hcap, Option.bind_some]
    unfold r4up.f
    rw [show ((0 : Int)) = ((0 : Nat) : Int) from rfl, hup, Option.bind_some]
    split <;> exact ⟨_, rfl⟩
  obtain ⟨m, hm⟩ := hm
  unfold r4Room.f
  rw [hm, Option.bind_some, hcap, Option.bind_some, Option.bind_some]
  exact ⟨_, rfl, fun _ => ⟨s, g, i, rfl, rfl, rfl, h⟩⟩
theorem awake_is : l4awake.f = some true := by decide +kernel
end Go.Proofs.Yteepgdfjbpfakaa.GP
