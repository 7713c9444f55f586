/-
  DrumlinPlaces, plain: blocks that are written lie apart from all else.
-/
import Derived.Test.YtcpfafmkhegckaaPlD
import Derived.Test.YtcpfafmkhegckaaDskI
namespace Go.Proofs.Ytcpfafmkhegckaa
open Go.RowKit
set_option linter.unusedVariables false
set_option linter.unusedSimpArgs false
/-- Not armed and not dead. -/
def Calm (D : Dk) : Prop := D.dead = false ∧ D.arm = -1
theorem calm_deed {D : Dk} (h : Calm D) : deedD D = ({ D with arm := -1, deeds := D.deeds + 1 }, 0) := by
  obtain ⟨h1, h2⟩ := h
  unfold deedD
  rw [h2]
  rfl
/-- How a disk is behind k blocks that were written. -/
structure PlDk (s g i : Nat) (sup : Sc) (k : Nat) (D : Dk) : Prop where
  calm : Calm D
  secs : D.S = (List.replicate (gSectors s g i) sc0).set 0 sup
  que : D.Q.length = k
  at_ : ∀ q ∈ D.Q, ∃ a : Nat, q.at_ = (a : Int) ∧ whOk s g i a = true
  deeds : 0 ≤ D.deeds ∧ D.deeds ≤ k + 2
theorem wh_lt {s g i a : Nat} (h : whOk s g i a = true) : gFirst s i ≤ a ∧ a < gSectors s g i := by
  unfold whOk at h
  rw [decide_eq_true_iff] at h
  exact ⟨h.1, h.2.1⟩
theorem PlDk.len {s g i k : Nat} {sup : Sc} {D : Dk} (h : PlDk s g i sup k D) : D.S.length = gSectors s g i := by rw [h.secs]; simp
theorem PlDk.ok {s g i k : Nat} {sup : Sc} {D : Dk} (h : PlDk s g i sup k D) : DOk D (k + 2) := by
  refine ⟨⟨by rw [h.calm.2]; decide, by rw [h.calm.2]; decide⟩, ⟨h.deeds.1, by have := h.deeds.2; push_cast at *; omega⟩, by rw [h.que]; omega, fun q hq => ?_⟩
  obtain ⟨a, e, ha⟩ := h.at_ q hq
  rw [e, h.len]
  have := (wh_lt ha).2
  omega
/-- The superblock is laid. -/
def plD0 (s g i : Nat) (sup : Sc) : Dk := (flushD (writeD (dk0 (gSectors s g i)) 0 sup).1).1
theorem plD0_ok {s g i : Nat} {sup : Sc} (hN : 1 ≤ gSectors s g i) : PlDk s g i sup 0 (plD0 s g i sup) ∧ (writeD (dk0 (gSectors s g i)) 0 sup).2 = 0 ∧ (flushD (writeD (dk0 (gSectors s g i)) 0 sup).1).2 = 0 := by
  have hm : mayE (dk0 (gSectors s g i)) 0 = 0 := by
    unfold mayE dk0
    simp
    omega
  have hw : writeD (dk0 (gSectors s g i)) 0 sup = ({ dk0 (gSectors s g i) with Q := [⟨0, sup⟩], arm := -1, deeds := 1 }, 0) := by
    unfold writeD
    rw [if_pos hm, calm_deed ⟨rfl, rfl⟩]
    rfl
  have hf : flushD (writeD (dk0 (gSectors s g i)) 0 sup).1 = ({ dk0 (gSectors s g i) with S := (List.replicate (gSectors s g i) sc0).set 0 sup, Q := [], arm := -1, deeds := 2 }, 0) := by
    rw [hw]
    rfl
  refine ⟨?_, by rw [hw], by rw [hf]⟩
  unfold plD0
  rw [hf]
  exact ⟨⟨rfl, rfl⟩, rfl, rfl, fun q hq => (List.not_mem_nil hq).elim, by show (0 : Int) ≤ 2; decide, by show (2 : Int) ≤ ((0 : Nat) : Int) + 2; decide⟩
theorem pl_write {s g i k a : Nat} {sup x : Sc} {D : Dk} (h : PlDk s g i sup k D) (ha : whOk s g i a = true) : PlDk s g i sup (k + 1) (writeD D (a : Int) x).1 ∧ (writeD D (a : Int) x).2 = 0 := by
  have hl := (wh_lt ha).2
  have hm : mayE D (a : Int) = 0 := by
    unfold mayE
    rw [if_neg (by rw [h.len]; omega), h.calm.1]
    rfl
  have hw : writeD D (a : Int) x = ({ D with Q := D.Q ++ [⟨(a : Int), x⟩], arm := -1, deeds := D.deeds + 1 }, 0) := by
    unfold writeD
    rw [if_pos hm, calm_deed (D := { D with Q := D.Q ++ [⟨(a : Int), x⟩] }) ⟨h.calm.1, h.calm.2⟩]
  rw [hw]
  refine ⟨⟨⟨h.calm.1, rfl⟩, h.secs, by simp [h.que], fun q hq => ?_, ?_⟩, rfl⟩
  · rcases List.mem_append.1 hq with hq | hq
    · exact h.at_ q hq
    · rw [List.mem_singleton] at hq
      subst hq
      exact ⟨a, rfl, ha⟩
  · have := h.deeds
    exact ⟨by show 0 ≤ D.deeds + 1; omega, by show D.deeds + 1 ≤ ((k + 1 : Nat) : Int) + 2; push_cast; omega⟩
theorem lay_far {s g i : Nat} (L : List Wr) : ∀ (S : List Sc), (∀ q ∈ L, ∃ a : Nat, q.at_ = (a : Int) ∧ whOk s g i a = true) → ∀ n, whOk s g i n = false → (layS S L).getD n sc0 = S.getD n sc0 := by
  induction L with
  | nil => intro S _ n _; rfl
  | cons q L ih =>
    intro S hq n hn
    have h1 : layS S (q :: L) = layS (S.set q.at_.toNat q.s) L := rfl
    rw [h1, ih _ (fun q' h' => hq q' (List.mem_cons_of_mem _ h')) n hn]
    obtain ⟨a, e, ha⟩ := hq q List.mem_cons_self
    have hne : a ≠ n := fun e2 => by rw [e2, hn] at ha; cases ha
    rw [List.getD_eq_getElem?_getD, List.getD_eq_getElem?_getD, e, Int.toNat_natCast, List.getElem?_set_ne hne]
theorem wh_zero (s g i : Nat) : whOk s g i 0 = false := by
  unfold whOk
  rw [decide_eq_false_iff_not]
  unfold gFirst
  omega
/-- What is read behind the crash where no block lies. -/
theorem pl_read {s g i k : Nat} {sup : Sc} {D : Dk} (h : PlDk s g i sup k D) (K : List Bool) (n : Nat) (hn : n < gSectors s g i) : mayE (crashD D K) (n : Int) = 0 ∧ (whOk s g i n = false → readS (crashD D K) (n : Int) = if n = 0 then sup else sc0) := by
  have hlen : (crashD D K).S.length = gSectors s g i := by
    show (layS D.S _).length = _
    rw [layS_len, h.len]
  have hm : mayE (crashD D K) (n : Int) = 0 := by
    unfold mayE
    rw [if_neg (by rw [hlen]; omega)]
    rfl
  refine ⟨hm, fun hw => ?_⟩
  unfold readS
  rw [if_pos hm]
  have hl : lastW (crashD D K).Q (n : Int) = none := rfl
  rw [hl]
  show (layS D.S (keptN D.Q K D.Q.length)).getD ((n : Int)).toNat sc0 = _
  rw [Int.toNat_natCast, lay_far (s := s) (g := g) (i := i) _ D.S (fun q hq => h.at_ q (keptN_mem (Nat.le_refl _) q hq)) n hw, h.secs, List.getD_eq_getElem?_getD]
  by_cases h0 : n = 0
  · subst h0
    rw [if_pos rfl, List.getElem?_set_self (by simpa using hn)]
    rfl
  · rw [if_neg h0, List.getElem?_set_ne (by omega), List.getElem?_replicate, if_pos hn]
    rfl
end Go.Proofs.Ytcpfafmkhegckaa
