/-
  GeomPlaces, plain: each sector is one thing.
-/
import Derived.Test.YteepgdfjbpfakaaGp4
import Derived.Test.YteepgdfjbpfakaaGp5
import Derived.Test.YteepgdfjbpfakaaBase
namespace Go.Proofs.Yteepgdfjbpfakaa.GP
open Go.RowKit Go.Proofs.YteepgdfjbpfakaaW.PrintWords Go.Proofs.YteepgdfjbpfakaaW.PrintLast Go.Proofs.YteepgdfjbpfakaaW.PrintMore
set_option linter.unusedVariables false
set_option linter.unusedSimpArgs false
theorem w64 {x : Int} (h1 : -9223372036854775808 ≤ x) (h2 : x ≤ 9223372036854775807) : wrap64 x = x := by unfold wrap64; omega
def upN (n b : Nat) : Nat := (n + b - 1) / b
theorem upN_iff {n b : Nat} (hb : 1 ≤ b) (x : Nat) : x * b < n ↔ x < upN n b := by
  unfold upN
  rw [Nat.lt_div_iff_mul_lt (by omega)]
  have : b * x = x * b := Nat.mul_comm _ _
  omega
theorem up_l0 (n b : Nat) (hn : n ≤ 100000) (hb : 1 ≤ b) (hb2 : b ≤ 1000) : ∀ (d x k : Nat), x + d = upN n b → d < k → r4up.l0 k n b x = some (upN n b : Int) := by
  intro d
  induction d with
  | zero =>
    intro x k hx hk
    obtain ⟨k, rfl⟩ : ∃ m, k = m + 1 := ⟨k - 1, by omega⟩
    have hxl : x ≤ 100000 := by
      have : upN n b ≤ n := by
        unfold upN
        rw [Nat.div_le_iff_le_mul_add_pred (by omega)]
        have : n ≤ b * n := Nat.le_mul_of_pos_left _ (by omega)
        omega
      omega
    have hm : x * b ≤ 100000 * 1000 := Nat.mul_le_mul hxl hb2
    have hno : ¬ x * b < n := fun h => by have := (upN_iff hb x).1 h; omega
    simp only [r4up.l0]
    rw [show ((x : Int) * (b : Int)) = ((x * b : Nat) : Int) by simp, w64 (by omega) (by omega), if_neg (by omega), show x = upN n b by omega]
  | succ d ih =>
    intro x k hx hk
    obtain ⟨k, rfl⟩ : ∃ m, k = m + 1 := ⟨k - 1, by omega⟩
    have hyes : x * b < n := (upN_iff hb x).2 (by omega)
    have hx2 : x ≤ x * b := Nat.le_mul_of_pos_right _ (by omega)
    simp only [r4up.l0]
    rw [show ((x : Int) * (b : Int)) = ((x * b : Nat) : Int) by simp, w64 (by omega) (by omega), if_pos (by omega), w64 (by omega) (by omega)]
    have := ih (x + 1) k (by omega) (by omega)
    rw [← this]; simp
def chN (i : Nat) : Nat := upN i 10
def tbN (s : Nat) : Nat := upN s 15
def FN (s i : Nat) : Nat := 3 + 2 * chN i + 2 * tbN s
section
variable {s g i : Nat}
structure Bd (s g i : Nat) : Prop where
  s1 : 8 ≤ s
  s2 : s ≤ 200
  g1 : 1 ≤ g
  g2 : g ≤ 32
  i1 : 2 ≤ i
  i2 : i ≤ 200
theorem ch_le (h : Bd s g i) : chN i ≤ 20 := by have := h.i2; unfold chN upN; omega
theorem tb_le (h : Bd s g i) : tbN s ≤ 14 := by have := h.s2; unfold tbN upN; omega
theorem rch (h : Bd s g i) (k : Nat) (hk : 30 ≤ k) (a b : Int) : r4Chunks.f k a b i = some (chN i : Int) := by
  have := ch_le h
  unfold r4Chunks.f r4up.f
  have e := up_l0 i 10 (by have := h.i2; omega) (by omega) (by omega) (chN i) 0 k (by unfold chN; omega) (by omega)
  rw [show ((10 : Int)) = ((10 : Nat) : Int) from rfl, show ((0 : Int)) = ((0 : Nat) : Int) from rfl, e]
  rfl
theorem rtb (h : Bd s g i) (k : Nat) (hk : 30 ≤ k) (a b : Int) : r4Tables.f k s a b = some (tbN s : Int) := by
  have := tb_le h
  unfold r4Tables.f r4up.f
  have e := up_l0 s 15 (by have := h.s2; omega) (by omega) (by omega) (tbN s) 0 k (by unfold tbN; omega) (by omega)
  rw [show ((15 : Int)) = ((15 : Nat) : Int) from rfl, show ((0 : Int)) = ((0 : Nat) : Int) from rfl, e]
  rfl
theorem gup (n b : Nat) (hn : n ≤ 100000) (hb : 1 ≤ b) (hb2 : b ≤ 1000) : g_up.f n b = some (upN n b : Int) := by
  unfold g_up.f
  rw [if_neg (by omega), w64 (x := (n : Int) + b) (by omega) (by omega), w64 (x := (n : Int) + b - 1) (by omega) (by omega)]
  have e : ((n : Int) + b - 1) = ((n + b - 1 : Nat) : Int) := by omega
  rw [e, ← Int.ofNat_tdiv]
  have hq : (n + b - 1) / b ≤ n + b - 1 := Nat.div_le_self _ _
  show some (wrap64 (((n + b - 1) / b : Nat) : Int)) = some (((n + b - 1) / b : Nat) : Int)
  generalize (n + b - 1) / b = q at hq ⊢
  rw [w64 (by omega) (by omega)]
theorem gch (h : Bd s g i) (a b : Int) : g_Chunks.f a b i = some (chN i : Int) := by
  unfold g_Chunks.f
  have := gup i 10 (by have := h.i2; omega) (by omega) (by omega)
  rw [show ((10 : Int)) = ((10 : Nat) : Int) from rfl, this]; rfl
theorem gtb (h : Bd s g i) (a b : Int) : g_Tables.f s a b = some (tbN s : Int) := by
  unfold g_Tables.f
  have := gup s 15 (by have := h.s2; omega) (by omega) (by omega)
  rw [show ((15 : Int)) = ((15 : Nat) : Int) from rfl, this]; rfl
theorem gfirst (h : Bd s g i) : g_first.f s g i = some (FN s i : Int) := by
  have := ch_le h
  have := tb_le h
  unfold g_first.f
  rw [gch h, Option.bind_some, gtb h, Option.bind_some]
  rw [w64 (x := 1 + (chN i : Int)) (by omega) (by omega), w64 (x := 1 + (chN i : Int) + (tbN s : Int)) (by omega) (by omega), w64 (x := 2 * (1 + (chN i : Int) + (tbN s : Int))) (by omega) (by omega), w64 (by omega) (by omega)]
  congr 1
  unfold FN
  omega
def NN (s g i : Nat) : Nat := FN s i + 9 * (s * g)
theorem sg_le (h : Bd s g i) : s * g ≤ 6400 := Nat.mul_le_mul h.s2 h.g2
theorem FN_le (h : Bd s g i) : FN s i ≤ 71 := by
  have := ch_le h
  have := tb_le h
  unfold FN; omega
theorem gsectors (h : Bd s g i) : g_Sectors.f s g i = some (NN s g i : Int) := by
  have := sg_le h
  have := FN_le h
  unfold g_Sectors.f
  rw [gfirst h, Option.bind_some, show ((s : Int) * (g : Int)) = ((s * g : Nat) : Int) by simp]
  rw [w64 (x := ((s * g : Nat) : Int)) (by omega) (by omega), w64 (x := ((s * g : Nat) : Int) * 9) (by omega) (by omega), w64 (by omega) (by omega)]
  congr 1
  unfold NN
  omega
theorem among_yes {a b c : Int} (h1 : b ≤ a) (h2 : a ≤ c) : g_among.f a b c = some true := by
  unfold g_among.f
  rw [if_pos h1, decide_eq_true h2]
theorem among_no {a b c : Int} (h : a < b ∨ c < a) : g_among.f a b c = some false := by
  unfold g_among.f
  rcases h with h | h
  · rw [if_neg (by omega)]
  · split
    · rw [decide_eq_false (by omega)]
    · rfl
/-- What a sector is. -/
def pAt (s g i n : Nat) : S40 :=
  if n = 0 then ⟨0, 0, 0, 0, 0, 0⟩
  else if n < FN s i then ⟨1, ((n - 1) / (1 + chN i + tbN s) : Nat), ((n - 1) % (1 + chN i + tbN s) : Nat), 0, 0, 0⟩
  else if (n - FN s i) % 9 = 0 then ⟨2, 0, 0, ((n - FN s i) / 9 / g : Nat), ((n - FN s i) / 9 % g : Nat), 0⟩
  else ⟨3, 0, 0, ((n - FN s i) / 9 / g : Nat), ((n - FN s i) / 9 % g : Nat), ((n - FN s i) % 9 - 1 : Nat)⟩
def pL (s g i m : Nat) : List S40 := (List.range m).map (pAt s g i)
theorem pL_succ (s g i m : Nat) (p : S40) (h : pAt s g i m = p) : pL s g i m ++ [p] = pL s g i (m + 1) := by
  unfold pL
  rw [List.range_succ, List.map_append, ← h]; rfl
theorem pL_len (s g i m : Nat) : (pL s g i m).length = m := by simp [pL]
theorem pAt_reg (h : Bd s g i) (n j : Nat) (hn : n < 2) (hj : j < 1 + chN i + tbN s) : pAt s g i (1 + n * (1 + chN i + tbN s) + j) = ⟨1, n, j, 0, 0, 0⟩ := by
  unfold pAt
  have hlt : n * (1 + chN i + tbN s) + j < 2 * (1 + chN i + tbN s) := by
    have : n * (1 + chN i + tbN s) ≤ 1 * (1 + chN i + tbN s) := Nat.mul_le_mul_right _ (by omega)
    omega
  rw [if_neg (by omega), if_pos (by unfold FN; omega)]
  rw [show 1 + n * (1 + chN i + tbN s) + j - 1 = j + (1 + chN i + tbN s) * n by rw [Nat.mul_comm]; omega]
  rw [Nat.add_mul_div_left _ _ (by omega), Nat.add_mul_mod_self_left, Nat.div_eq_of_lt hj, Nat.mod_eq_of_lt hj]
  simp
theorem dm (g a b : Nat) (hb : b < g) : (a * g + b) / g = a ∧ (a * g + b) % g = b := by
  rw [show a * g + b = b + g * a by rw [Nat.mul_comm]; omega, Nat.add_mul_div_left _ _ (by omega), Nat.add_mul_mod_self_left, Nat.div_eq_of_lt hb, Nat.mod_eq_of_lt hb]
  simp
theorem pAt_sum (h : Bd s g i) (a b : Nat) (hb : b < g) : pAt s g i (FN s i + 9 * (a * g + b)) = ⟨2, 0, 0, a, b, 0⟩ := by
  unfold pAt
  have : 3 ≤ FN s i := by unfold FN; omega
  rw [if_neg (by omega), if_neg (by omega), show FN s i + 9 * (a * g + b) - FN s i = 9 * (a * g + b) by omega, if_pos (by omega), show 9 * (a * g + b) / 9 = a * g + b by omega, (dm g a b hb).1, (dm g a b hb).2]
theorem pAt_blk (h : Bd s g i) (a b j : Nat) (hb : b < g) (hj : j < 8) : pAt s g i (FN s i + 9 * (a * g + b) + 1 + j) = ⟨3, 0, 0, a, b, j⟩ := by
  unfold pAt
  have : 3 ≤ FN s i := by unfold FN; omega
  rw [if_neg (by omega), if_neg (by omega), show FN s i + 9 * (a * g + b) + 1 + j - FN s i = 9 * (a * g + b) + 1 + j by omega, if_neg (by omega), show (9 * (a * g + b) + 1 + j) / 9 = a * g + b by omega, (dm g a b hb).1, (dm g a b hb).2,
    show (9 * (a * g + b) + 1 + j) % 9 - 1 = j by omega]
/-! ### the parts are these -/
def P0 (s g i m n : Nat) : Prop := ∃ k, r4Parts.l0 k (pL s g i m) n s g i = some (pL s g i (NN s g i))
def P1 (s g i m n j : Nat) : Prop := ∃ k, r4Parts.l1 k (pL s g i m) n j s g i = some (pL s g i (NN s g i))
def P2 (s g i m a : Nat) : Prop := ∃ k, r4Parts.l2 k (pL s g i m) a s g i = some (pL s g i (NN s g i))
def P3 (s g i m a b : Nat) : Prop := ∃ k, r4Parts.l3 k (pL s g i m) a b s g i = some (pL s g i (NN s g i))
def P4 (s g i m a b j : Nat) : Prop := ∃ k, r4Parts.l4 k (pL s g i m) a b j s g i = some (pL s g i (NN s g i))
theorem p4_run (h : Bd s g i) (a b : Nat) (ha : a < s) (hb : b < g) (h3 : P3 s g i (FN s i + 9 * (a * g + (b + 1))) a (b + 1)) : ∀ (d j : Nat), j + d = 8 → P4 s g i (FN s i + 9 * (a * g + b) + 1 + j) a b j := by
  have hab : a * g ≤ 200 * 32 := Nat.mul_le_mul (by have := h.s2; omega) h.g2
  have hF := FN_le h
  have hg := h.g2
  have hs2 := h.s2
  intro d
  induction d with
  | zero =>
    intro j hj
    obtain rfl : j = 8 := by omega
    obtain ⟨k, hk⟩ := h3
    refine ⟨k + 1, ?_⟩
    simp only [r4Parts.l4]
    rw [if_neg (by omega), w64 (by omega) (by omega)]
    rw [show FN s i + 9 * (a * g + b) + 1 + 8 = FN s i + 9 * (a * g + (b + 1)) by omega]
    rw [show ((b : Int) + 1) = ((b + 1 : Nat) : Int) by omega]
    exact hk
  | succ d ih =>
    intro j hj
    obtain ⟨k, hk⟩ := ih (j + 1) (by omega)
    refine ⟨k + 1, ?_⟩
    simp only [r4Parts.l4]
    rw [if_pos (by omega), pL_len, if_pos (by omega), w64 (by omega) (by omega), pL_succ s g i _ _ (pAt_blk h a b j hb (by omega))]
    rw [show ((j : Int) + 1) = ((j + 1 : Nat) : Int) by omega]
    exact hk
theorem p3_run (h : Bd s g i) (a : Nat) (ha : a < s) (h2 : P2 s g i (FN s i + 9 * ((a + 1) * g)) (a + 1)) : ∀ (d b : Nat), b + d = g → P3 s g i (FN s i + 9 * (a * g + b)) a b := by
  have hab : a * g ≤ 200 * 32 := Nat.mul_le_mul (by have := h.s2; omega) h.g2
  have hF := FN_le h
  have hg := h.g2
  have hs2 := h.s2
  intro d
  induction d with
  | zero =>
    intro b hb
    obtain rfl : b = g := by omega
    obtain ⟨k, hk⟩ := h2
    refine ⟨k + 1, ?_⟩
    simp only [r4Parts.l3]
    rw [if_neg (by omega), w64 (by omega) (by omega)]
    rw [show a * b + b = (a + 1) * b by rw [Nat.add_mul]; omega]
    rw [show ((a : Int) + 1) = ((a + 1 : Nat) : Int) by omega]
    exact hk
  | succ d ih =>
    intro b hb
    obtain ⟨k, hk⟩ := p4_run h a b ha (by omega) (ih (b + 1) (by omega)) 8 0 (by omega)
    refine ⟨k + 1, ?_⟩
    simp only [r4Parts.l3]
    rw [if_pos (by omega), pL_len, if_pos (by omega), pL_succ s g i _ _ (pAt_sum h a b (by omega))]
    exact hk
theorem p2_run (h : Bd s g i) : ∀ (d a : Nat), a + d = s → P2 s g i (FN s i + 9 * (a * g)) a := by
  intro d
  induction d with
  | zero =>
    intro a ha
    obtain rfl : a = s := by omega
    refine ⟨1, ?_⟩
    simp only [r4Parts.l2]
    rw [if_neg (by omega)]
    rfl
  | succ d ih =>
    intro a ha
    obtain ⟨k, hk⟩ := p3_run h a (by omega) (ih (a + 1) (by omega)) g 0 (by omega)
    refine ⟨k + 1, ?_⟩
    simp only [r4Parts.l2]
    rw [if_pos (by omega)]
    exact hk
theorem p1_run (h : Bd s g i) (n : Nat) (hn : n < 2) (h0 : P0 s g i (1 + (n + 1) * (1 + chN i + tbN s)) (n + 1)) : ∀ (d j : Nat), j + d = 1 + chN i + tbN s → P1 s g i (1 + n * (1 + chN i + tbN s) + j) n j := by
  have hc := ch_le h
  have ht := tb_le h
  have hle : n * (1 + chN i + tbN s) ≤ 1 * (1 + chN i + tbN s) := Nat.mul_le_mul_right _ (by omega)
  intro d
  induction d with
  | zero =>
    intro j hj
    obtain ⟨k, hk⟩ := h0
    have hk' := at_rounds (fun k => (r4Parts.mono_l k).1 _ _ _ _ _) (show k ≤ max k 30 by omega) hk
    refine ⟨max k 30 + 1, ?_⟩
    simp only [r4Parts.l1]
    rw [rch h _ (by omega), Option.bind_some, rtb h _ (by omega), Option.bind_some, w64 (x := 1 + (chN i : Int)) (by omega) (by omega), w64 (x := 1 + (chN i : Int) + (tbN s : Int)) (by omega) (by omega), if_neg (by omega), w64 (by omega) (by omega)]
    rw [show 1 + n * (1 + chN i + tbN s) + j = 1 + (n + 1) * (1 + chN i + tbN s) by rw [Nat.add_mul]; omega]
    rw [show ((n : Int) + 1) = ((n + 1 : Nat) : Int) by omega]
    exact hk'
  | succ d ih =>
    intro j hj
    obtain ⟨k, hk⟩ := ih (j + 1) (by omega)
    have hk' := at_rounds (fun k => (r4Parts.mono_l k).2.1 _ _ _ _ _ _) (show k ≤ max k 30 by omega) hk
    refine ⟨max k 30 + 1, ?_⟩
    simp only [r4Parts.l1]
    rw [rch h _ (by omega), Option.bind_some, rtb h _ (by omega), Option.bind_some, w64 (x := 1 + (chN i : Int)) (by omega) (by omega), w64 (x := 1 + (chN i : Int) + (tbN s : Int)) (by omega) (by omega), if_pos (by omega), pL_len, if_pos (by omega), w64 (by omega) (by omega), pL_succ s g i _ _ (pAt_reg h n j hn (by omega))]
    rw [show ((j : Int) + 1) = ((j + 1 : Nat) : Int) by omega]
    exact hk'
theorem p0_run (h : Bd s g i) : ∀ (d n : Nat), n + d = 2 → P0 s g i (1 + n * (1 + chN i + tbN s)) n := by
  intro d
  induction d with
  | zero =>
    intro n hn
    obtain rfl : n = 2 := by omega
    obtain ⟨k, hk⟩ := p2_run h s 0 (by omega)
    refine ⟨k + 1, ?_⟩
    simp only [r4Parts.l0]
    rw [if_neg (by omega)]
    rw [show 1 + 2 * (1 + chN i + tbN s) = FN s i + 9 * (0 * g) by unfold FN; omega]
    exact hk
  | succ d ih =>
    intro n hn
    obtain ⟨k, hk⟩ := p1_run h n (by omega) (ih (n + 1) (by omega)) (1 + chN i + tbN s) 0 (by omega)
    refine ⟨k + 1, ?_⟩
    simp only [r4Parts.l0]
    rw [if_pos (by omega)]
    exact hk
theorem parts_are (h : Bd s g i) : ∃ k, r4Parts.f k s g i = some (pL s g i (NN s g i)) := by
  obtain ⟨k, hk⟩ := p0_run h 2 0 (by omega)
  refine ⟨k, ?_⟩
  unfold r4Parts.f
  rw [← hk]
  congr 1
  show _ = pL s g i (1 + 0 * (1 + chN i + tbN s))
  rw [Nat.zero_mul]
  rfl
end
end Go.Proofs.Yteepgdfjbpfakaa.GP
