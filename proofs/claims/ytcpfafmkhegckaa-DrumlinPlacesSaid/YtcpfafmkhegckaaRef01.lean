/-
  The contracts of the reference's plain functions on bytes: Low, Num, Get, Copy, Equal, Put.
-/
import Derived.Test.YtcpfafmkhegckaaNum
import Derived.Deep.QuietTactic
import Derived.BigQuiet
namespace Go.Proofs.Ytcpfafmkhegckaa
open Go.RowKit
set_option linter.unusedVariables false

theorem u64_nat (n : Nat) (h : n < 2 ^ 64) : IntKind.u64.wrap (n : Int) = (n : Int) := by simp [IntKind.wrap, IntKind.signed, IntKind.bits]; omega
theorem u8_of_rem (q : Nat) : ((q : Int)) % 256 = ((UInt8.ofNat (q % 256)).toNat : Int) := by simp
/-! ### Put -/
/-- What a function comes to that hands back bytes of its own and an error's number. -/
def RetB2 (E : TypeId) (w : World) (l : List UInt8) (n : Int) (e : Ending) (w' : World) : Prop := ∃ v, e = .returned (.tuple #[v, .int .i64 n]) ∧ w'.ownsRow w.heap.size E 1 v l.length (bvs l) ∧ Below w.heap.size w w'
theorem putOk_has (n : Nat) (at_ width : Int) (x : Nat) (hf : fitsB n at_ width = true) : hasB width x = putOk n at_ width x := by
  obtain ⟨h1, h2, _, _⟩ := (fitsB_iff _ _ _).1 hf
  unfold hasB putOk
  rw [hf, decide_eq_true (show 1 ≤ width ∧ width ≤ 8 from ⟨h1, h2⟩)]
end Go.Proofs.Ytcpfafmkhegckaa
