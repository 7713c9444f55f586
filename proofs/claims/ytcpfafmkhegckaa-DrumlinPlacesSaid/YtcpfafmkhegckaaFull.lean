/-
  A sector of bytes: the reference's Full.
-/
import Derived.Test.YtcpfafmkhegckaaNum
import Derived.Test.YtcpfafmkhegckaaSec
namespace Go.Proofs.Ytcpfafmkhegckaa
open Go.RowKit
set_option linter.unusedVariables false
set_option linter.unusedSimpArgs false
theorem bvs_set (l : List UInt8) (i : Nat) (x : UInt8) : (bvs l).set i (bval x) = bvs (l.set i x) := by simp [bvs, List.map_set]
/-- What Full hands back. -/
def full (l : List UInt8) : List UInt8 := (l.take 128) ++ List.replicate (128 - l.length) 0
theorem full_length (l : List UInt8) : (full l).length = 128 := by simp [full]; omega
def fulls (l : List UInt8) (j : Nat) : List UInt8 := (l.take j) ++ List.replicate (128 - j) 0
theorem fulls_zero (l : List UInt8) : fulls l 0 = List.replicate 128 0 := by simp [fulls]
theorem fulls_length (l : List UInt8) (j : Nat) (h : j ≤ l.length) (h2 : j ≤ 128) : (fulls l j).length = 128 := by simp [fulls]; omega
theorem fulls_end (l : List UInt8) (j : Nat) (h : j ≤ l.length) (h2 : j ≤ 128) (h3 : j = l.length ∨ j = 128) : fulls l j = full l := by
  unfold fulls full
  rcases h3 with rfl | rfl
  · rw [List.take_of_length_le (Nat.le_refl _), List.take_of_length_le h2]
  · rw [show 128 - l.length = 0 by omega]
theorem fulls_succ (l : List UInt8) (j : Nat) (h : j < l.length) (h2 : j < 128) : (fulls l j).set j (l.getD j 0) = fulls l (j + 1) := by
  unfold fulls
  have e : (l.take j).length = j := by simp; omega
  rw [List.set_append_right _ _ (by omega), e, Nat.sub_self, show 128 - j = (128 - (j + 1)) + 1 by omega, List.replicate_succ, List.set_cons_zero, List.take_succ_eq_append_getElem h, List.getD_eq_getElem?_getD, List.getElem?_eq_getElem h, List.append_assoc]
  rfl
end Go.Proofs.Ytcpfafmkhegckaa
