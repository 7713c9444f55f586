/-
  Sealed sectors: the walk of the reference's Open.
-/
import Derived.Test.YtcpfafmkhegckaaSealR
namespace Go.Proofs.Ytcpfafmkhegckaa
open Go.RowKit
set_option linter.unusedVariables false
set_option linter.unusedSimpArgs false
theorem equal_array (w : World) (xs ys : List UInt8) (hx : xs.length = 128) (hy : ys.length = 128) : (Op.equalIn 10000 35 (secV xs) (secV ys)).run Try.prog w = .ok (decide (xs = ys)) w :=
  (have h : ∃ i, Try.prog.info? 5 = some i := by
    cases hi : Try.prog.info? 5 with
    | none => have := infoU8; rw [hi] at this; cases this
    | some i => exact ⟨i, rfl⟩
   let ⟨i, hi⟩ := h
   equal_sec Try.underlying35 hi (by kernel_rfl) (by kernel_rfl) Try.underlying5 w xs ys hx hy)
/-- What the reference's Open comes to. -/
def RopTo (w : World) (k : UInt8) (l : List UInt8) (b : Bool) (e : Ending) (w' : World) : Prop := ∃ v, e = .returned (.tuple #[.int .u8 (k.toNat : Int), v, .bool b]) ∧ w'.ownsRow w.heap.size 5 1 v l.length (bvs l) ∧ Below w.heap.size w w'
theorem own_none (w : World) (base e : Nat) : w.ownsRow base e 1 (.slice none 0 0) 0 (bvs []) := ⟨by simp [bvs], .inl ⟨rfl, rfl⟩⟩
theorem ropTo_no {l : List UInt8} {w w' : World} {e : Ending} (h : openB l = false) (he : e = .returned (.tuple #[.int .u8 0, .slice none 0 0, .bool false])) (hb : Below w.heap.size w w') :
    RopTo w (openK l) (openL l) (openB l) e w' := by
  unfold openK openL
  rw [h]
  exact ⟨_, he, own_none _ _ _, hb⟩
theorem ropTo_yes {l : List UInt8} {w w' : World} {e : Ending} {v : Value} {k : UInt8} {b : List UInt8} {n : Nat} (h : openB l = true) (hk : k = l.getD 2 0) (hb' : b = bodyOf l) (he : e = .returned (.tuple #[.int .u8 (k.toNat : Int), v, .bool true])) (ho : w'.ownsRow w.heap.size 5 1 v n (bvs b)) (hb : Below w.heap.size w w') :
    RopTo w (openK l) (openL l) (openB l) e w' := by
  unfold openK openL
  rw [h, if_pos rfl, if_pos rfl, ← hk, ← hb']
  have hn := (own_byt ho).2
  subst hn
  exact ⟨_, he, ho, hb⟩
theorem body_step (l : List UInt8) (j : Nat) (h : 4 + j < l.length) : (l.drop 4).take (j + 1) = (l.drop 4).take j ++ [l.getD (4 + j) 0] := by
  have hj : j < (l.drop 4).length := by simp; omega
  rw [List.take_succ_eq_append_getElem hj]
  simp only [List.getElem_drop, List.getD_eq_getElem?_getD]
  rw [List.getElem?_eq_getElem h]; rfl
end Go.Proofs.Ytcpfafmkhegckaa
