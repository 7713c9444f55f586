/-
  The superblock: the walks of the reference's Super and Read.
-/
import Derived.Test.YtcpfafmkhegckaaGeomB
import Derived.Test.YtcpfafmkhegckaaGeomE
namespace Go.Proofs.Ytcpfafmkhegckaa
open Go.RowKit
set_option linter.unusedVariables false
set_option linter.unusedSimpArgs false
theorem At3.at_ {b B : Nat} {s g i : Int} {w w' : World} (h : At3 b s g i w) (hb : Below B w w') (hlt : b < B) : At3 b s g i w' :=
  ⟨(hb.cell (p := ⟨b, 0, none⟩) hlt).trans h.1, (hb.cell (p := ⟨b, 1, none⟩) hlt).trans h.2.1, (hb.cell (p := ⟨b, 2, none⟩) hlt).trans h.2.2⟩
theorem supB_two (s g i : Nat) : (le 4 s ++ le 4 g) ++ le 4 i = supB s g i := rfl
end Go.Proofs.Ytcpfafmkhegckaa
