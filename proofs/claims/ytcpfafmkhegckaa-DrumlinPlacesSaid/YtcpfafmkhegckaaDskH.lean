/-
  Disk: Queue.
-/
import Derived.Test.YtcpfafmkhegckaaDskG
namespace Go.Proofs.Ytcpfafmkhegckaa
open Go.RowKit
set_option linter.unusedVariables false
set_option linter.unusedSimpArgs false
def atsV (L : List Wr) : List Value := L.map (fun q => Value.int .i64 q.at_)
def QueTo (w : World) (L : List Wr) (e : Ending) (w' : World) : Prop := ∃ v, e = .returned v ∧ w'.ownsRow w.heap.size 3 1 v L.length (atsV L) ∧ Below w.heap.size w w'
theorem infoInt : (Try.prog.info? 3).map (fun i => (i.zero, i.size, i.bytes)) = some (some (.int .i64 0), 1, 8) := by kernel_rfl
section
variable {w w' : World} {base p gS : Nat} {vq : Value} {D : Dk}
end
end Go.Proofs.Ytcpfafmkhegckaa
