/-
  Codec: the passes, when they write.
-/
import Derived.Test.YtlcbfpcabalgcaaCodB
import Derived.Test.YtlcbfpcabalgcaaReg
namespace Go.Proofs.Ytlcbfpcabalgcaa
open Go.RowKit
set_option linter.unusedVariables false
set_option linter.unusedSimpArgs false
set_option linter.unnecessarySimpa false
/-- Numbers and their widths: the bytes, and whether one has no room. -/
def fB : List (Nat × Int) → List UInt8
  | [] => []
  | x :: r => wB x.1 x.2.toNat ++ fB r
def fBad : List (Nat × Int) → Bool
  | [] => false
  | x :: r => (decide (x.2 < 0) || !fitB x.1 x.2.toNat) || fBad r
def wV (g : Nat) : Value := .iface 165 (.pointer (some ⟨g, 0, none⟩))
theorem nat_neg (n : Nat) : decide ((n : Int) < 0) = false := by simp
theorem na_w (a : Addr) (W : World) (s : String) (hs : s = "drumlin/codec.int" ∨ s = "drumlin/codec.word" ∨ s = "drumlin/codec.wide" ∨ s = "drumlin/codec.more") : (nilAhead 339 165 (.pointer (some a)) s).run Try.prog W = .ok (some false) W := by
  rcases hs with rfl | rfl | rfl | rfl <;> kernel_rfl
theorem mw_int (a : Addr) (W : World) : (method 339 165 (.pointer (some a)) "drumlin/codec.int").run Try.prog W = .ok (128, .pointer (some a)) W := by kernel_rfl
theorem mw_word (a : Addr) (W : World) : (method 339 165 (.pointer (some a)) "drumlin/codec.word").run Try.prog W = .ok (131, .pointer (some a)) W := by kernel_rfl
theorem mw_wide (a : Addr) (W : World) : (method 339 165 (.pointer (some a)) "drumlin/codec.wide").run Try.prog W = .ok (130, .pointer (some a)) W := by kernel_rfl
theorem mw_more (a : Addr) (W : World) : (method 339 165 (.pointer (some a)) "drumlin/codec.more").run Try.prog W = .ok (129, .pointer (some a)) W := by kernel_rfl
end Go.Proofs.Ytlcbfpcabalgcaa
