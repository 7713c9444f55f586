/-
  DiskSafe, plain: what acts without arms leave; what a sector is behind a crash.
-/
import Derived.Test.YtiehfaiadhhndaaDsPc
namespace Go.Proofs.Ytiehfaiadhhndaa
open Go.RowKit
set_option linter.unusedVariables false
set_option linter.unusedSimpArgs false
/-- Not armed and not dead. -/
def Calm (D : Dk) : Prop := D.dead = false ∧ D.arm = -1
theorem calm_dk0 (n : Nat) : Calm (dk0 n) := ⟨rfl, rfl⟩
theorem calm_deed {D : Dk} (h : Calm D) : Calm (deedD D).1 ∧ (deedD D).2 = 0 := by
  obtain ⟨h1, h2⟩ := h
  unfold deedD
  rw [h2]
  simp [Calm, h1, h2]
theorem calm_act {D : Dk} (h : Calm D) (a : Ac) (ha : a.kind ≠ 3) : Calm (actD D a) := by
  unfold actD
  split
  · unfold writeD
    split
    · exact (calm_deed (D := { D with Q := D.Q ++ [⟨a.at_, scFull a.S⟩] }) ⟨h.1, h.2⟩).1
    · exact h
  · split
    · unfold flushD
      rw [h.1, h.2]
      simp [Calm, deedD, h.1, h.2]
    · split
      · exact ⟨rfl, rfl⟩
      · exact h
theorem calm_flush {D : Dk} (h : Calm D) : (flushD D).2 = 0 ∧ (flushD D).1.Q = [] ∧ (flushD D).1.dead = false := by
  unfold flushD
  rw [h.1, h.2]
  simp [deedD, h.1, h.2]
/-- What stands at a place behind the first writes that were kept. -/
def wantN (z : Sc) (Q : List Wr) (K : List Bool) (i : Int) : Nat → Sc
  | 0 => z
  | k + 1 => if (Q.getD k wr0).at_ = i ∧ K.getD k false = true then (Q.getD k wr0).s else wantN z Q K i k
theorem lay_snoc (S : List Sc) (L : List Wr) (q : Wr) : layS S (L ++ [q]) = (layS S L).set q.at_.toNat q.s := by
  unfold layS
  rw [List.foldl_append]
  rfl
theorem lay_want (S : List Sc) (Q : List Wr) (K : List Bool) (i : Nat) (hi : i < S.length) (hq : ∀ q ∈ Q, 0 ≤ q.at_) : ∀ k, k ≤ Q.length → (layS S (keptN Q K k)).getD i sc0 = wantN (S.getD i sc0) Q K (i : Int) k := by
  intro k
  induction k with
  | zero => intro _; rfl
  | succ k ih =>
    intro hk
    have hm : Q.getD k wr0 ∈ Q := by
      rw [List.getD_eq_getElem?_getD, List.getElem?_eq_getElem (by omega)]
      exact List.getElem_mem _
    have h0 := hq _ hm
    unfold keptN wantN
    by_cases hK : K.getD k false = true
    · rw [if_pos hK, lay_snoc]
      by_cases he : (Q.getD k wr0).at_ = (i : Int)
      · rw [if_pos ⟨he, hK⟩, he]
        rw [List.getD_eq_getElem?_getD, Int.toNat_natCast, List.getElem?_set_self (by rw [layS_len]; exact hi)]
        rfl
      · rw [if_neg (fun h => he h.1)]
        rw [List.getD_eq_getElem?_getD, List.getElem?_set_ne (by omega), ← List.getD_eq_getElem?_getD]
        exact ih (by omega)
    · rw [if_neg hK, if_neg (fun h => hK h.2)]
      exact ih (by omega)
end Go.Proofs.Ytiehfaiadhhndaa
