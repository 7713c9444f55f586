/-
  No cell of these rows narrows 'for every input' (looked for: loops, veiled, ifaces, maps, wideKeys, modest, calm, conditions, laid).
  DERIVED. THE GIVEN ROWS OF THIS SEAT. 5 by the template 'for every input the law returns true; each argument reads behind the call as it read before'; 0 by the template 'total and deterministic' (their statements: YtljdgcchdmiadaaTotals.lean).
  GIVEN WITH THE SEED: the statements are not yours to turn. If you find one false, say at which input.
  Laid BY PROGRAM, IN A SANDBOX (cutbox-rows.mjs): the forced cells as the released guide's own fill.sh prints them over the translation f88d9986df7e8c39… (all of the seat's roots in one cut). By AI agents, Wed Nov 11 2026. No macro, syntax, notation, axiom, sorry.
-/
import Derived.Test.YtljdgcchdmiadaaChecked
import GoSem.Claim
import GoSem.ClaimJoined
import GoSem.ClaimMapViews
import Derived.JoinedTies
import Derived.KernelRfl
namespace Go.Proofs.Ytljdgcchdmiadaa
/- THE CELL 'sum', in the pinned program and in every row, IS THE sha256 OF THE DUMP (.gsa) THAT YtljdgcchdmiadaaProg.lean LOADS. Nothing in Lean hashes anything: it is a label: what it is worth is what the hold of that sum in a sandbox is worth. -/
noncomputable def Try.pinned : Pinned := { name := "ytljdgcchdmiadaa", sum := "f88d9986df7e8c39b2feedab9622fc3c386045017f85f4acb375db137807f20e", checked := Try.checked }
namespace Rows
def none {H : Type} : Left H := { results := [], args := [] }

/-- 'drumlinlaw02.SealSums': WHATEVER THE INPUT: true; the input reads as it did. -/
def sealSumsSpec : ChangeSpec := { name := "sealSums", fn := fun _ => fun
  | [d] => { results := [.lit (.bool true)], args := [d] }
  | _ => none }
def sealSumsRow : OpenClaim := { program := "ytljdgcchdmiadaa", sum := "f88d9986df7e8c39b2feedab9622fc3c386045017f85f4acb375db137807f20e", func := "drumlin/drumlinlaw02.SealSums", spec := "sealSums", apart := false }
def SealSumsSaid : Prop := sealSumsRow.holds Try.pinned (OpenSpec.ofChange sealSumsSpec)

/-- ITS FALSE NEIGHBOUR: 'it returns false'. Refute it at one input. -/
def sealSumsWrong : ChangeSpec := { name := "sealSums", fn := fun _ => fun
  | [d] => { results := [.lit (.bool false)], args := [d] }
  | _ => none }
def SealSumsWrongFalsely : Prop := sealSumsRow.holds Try.pinned (OpenSpec.ofChange sealSumsWrong)

/-- 'drumlinlaw02.SealMakes': WHATEVER THE INPUT: true; the input reads as it did. -/
def sealMakesSpec : ChangeSpec := { name := "sealMakes", fn := fun _ => fun
  | [d1, d2] => { results := [.lit (.bool true)], args := [d1, d2] }
  | _ => none }
def sealMakesRow : OpenClaim := { program := "ytljdgcchdmiadaa", sum := "f88d9986df7e8c39b2feedab9622fc3c386045017f85f4acb375db137807f20e", func := "drumlin/drumlinlaw02.SealMakes", spec := "sealMakes", apart := false }
def SealMakesSaid : Prop := sealMakesRow.holds Try.pinned (OpenSpec.ofChange sealMakesSpec)

/-- ITS FALSE NEIGHBOUR: 'it returns false'. Refute it at one input. -/
def sealMakesWrong : ChangeSpec := { name := "sealMakes", fn := fun _ => fun
  | [d1, d2] => { results := [.lit (.bool false)], args := [d1, d2] }
  | _ => none }
def SealMakesWrongFalsely : Prop := sealMakesRow.holds Try.pinned (OpenSpec.ofChange sealMakesWrong)

/-- 'drumlinlaw02.SealOpens': WHATEVER THE INPUT: true; the input reads as it did. -/
def sealOpensSpec : ChangeSpec := { name := "sealOpens", fn := fun _ => fun
  | [d1, d2] => { results := [.lit (.bool true)], args := [d1, d2] }
  | _ => none }
def sealOpensRow : OpenClaim := { program := "ytljdgcchdmiadaa", sum := "f88d9986df7e8c39b2feedab9622fc3c386045017f85f4acb375db137807f20e", func := "drumlin/drumlinlaw02.SealOpens", spec := "sealOpens", apart := false }
def SealOpensSaid : Prop := sealOpensRow.holds Try.pinned (OpenSpec.ofChange sealOpensSpec)

/-- ITS FALSE NEIGHBOUR: 'it returns false'. Refute it at one input. -/
def sealOpensWrong : ChangeSpec := { name := "sealOpens", fn := fun _ => fun
  | [d1, d2] => { results := [.lit (.bool false)], args := [d1, d2] }
  | _ => none }
def SealOpensWrongFalsely : Prop := sealOpensRow.holds Try.pinned (OpenSpec.ofChange sealOpensWrong)

/-- 'drumlinlaw02.SealTurns': WHATEVER THE INPUT: true; the input reads as it did. -/
def sealTurnsSpec : ChangeSpec := { name := "sealTurns", fn := fun _ => fun
  | [d1, d2, d3] => { results := [.lit (.bool true)], args := [d1, d2, d3] }
  | _ => none }
def sealTurnsRow : OpenClaim := { program := "ytljdgcchdmiadaa", sum := "f88d9986df7e8c39b2feedab9622fc3c386045017f85f4acb375db137807f20e", func := "drumlin/drumlinlaw02.SealTurns", spec := "sealTurns", apart := false }
def SealTurnsSaid : Prop := sealTurnsRow.holds Try.pinned (OpenSpec.ofChange sealTurnsSpec)

/-- ITS FALSE NEIGHBOUR: 'it returns false'. Refute it at one input. -/
def sealTurnsWrong : ChangeSpec := { name := "sealTurns", fn := fun _ => fun
  | [d1, d2, d3] => { results := [.lit (.bool false)], args := [d1, d2, d3] }
  | _ => none }
def SealTurnsWrongFalsely : Prop := sealTurnsRow.holds Try.pinned (OpenSpec.ofChange sealTurnsWrong)

/-- 'drumlinlaw02.SealUnlike': WHATEVER THE INPUT: true; the input reads as it did. -/
def sealUnlikeSpec : ChangeSpec := { name := "sealUnlike", fn := fun _ => fun
  | [d1, d2, d3] => { results := [.lit (.bool true)], args := [d1, d2, d3] }
  | _ => none }
def sealUnlikeRow : OpenClaim := { program := "ytljdgcchdmiadaa", sum := "f88d9986df7e8c39b2feedab9622fc3c386045017f85f4acb375db137807f20e", func := "drumlin/drumlinlaw02.SealUnlike", spec := "sealUnlike", apart := false }
def SealUnlikeSaid : Prop := sealUnlikeRow.holds Try.pinned (OpenSpec.ofChange sealUnlikeSpec)

/-- ITS FALSE NEIGHBOUR: 'it returns false'. Refute it at one input. -/
def sealUnlikeWrong : ChangeSpec := { name := "sealUnlike", fn := fun _ => fun
  | [d1, d2, d3] => { results := [.lit (.bool false)], args := [d1, d2, d3] }
  | _ => none }
def SealUnlikeWrongFalsely : Prop := sealUnlikeRow.holds Try.pinned (OpenSpec.ofChange sealUnlikeWrong)

/- THE SECOND FORM. 'bulk': how many values and letters a reading holds, each counted each time it is reached (what is shared counts as often as it is met; a slice's spare places count too). A statement '..UptoSaid' is the law's where the arguments, and the package variables that the reading takes, are together of bulk at most 1048576: NARROWER than '..Said'. Prove '..Said' where nothing that the law and all that it calls make is longer than what came in: it says more and counts as full. Else prove '..UptoSaid'. A law counts once. -/
mutual
def uptoBulk {H : Type} : DataW H → Nat
  | .lit (.string bytes) => bytes.length + 1
  | .lit _ => 1
  | .nil => 1
  | .ptr d => uptoBulk d + 1
  | .slice elems spare => uptoBulkAll elems + uptoBulkAll spare + 1
  | .agg parts => uptoBulkAll parts + 1
  | .iface _ d => uptoBulk d + 1
  | .map entries => uptoBulkEntries entries + 1
  | .held _ => 1
def uptoBulkAll {H : Type} : List (DataW H) → Nat
  | [] => 0
  | d :: r => uptoBulk d + uptoBulkAll r
def uptoBulkEntries {H : Type} : List (Lit × DataW H) → Nat
  | [] => 0
  | x :: r => uptoBulkEntry x + uptoBulkEntries r
def uptoBulkEntry {H : Type} : Lit × DataW H → Nat
  | (.string bytes, d) => bytes.length + uptoBulk d + 1
  | (_, d) => uptoBulk d + 1
 end
def uptoSmall : (H : Type) → List (DataW H) → Bool := fun _ ds => decide (uptoBulkAll ds ≤ 1048576)
def OpenSpec.upto (s : _root_.Go.ChangeSpec) : _root_.Go.OpenSpec := { _root_.Go.OpenSpec.ofChange s with cond := some uptoSmall }

/-- 'drumlinlaw02.SealSums', WHERE WHAT IT READS IS OF BULK AT MOST 1048576: true; the input reads as it did. -/
def sealSumsUptoRow : OpenClaim := { program := "ytljdgcchdmiadaa", sum := "f88d9986df7e8c39b2feedab9622fc3c386045017f85f4acb375db137807f20e", func := "drumlin/drumlinlaw02.SealSums", spec := "sealSums", apart := false, narrowed := true }
def SealSumsUptoSaid : Prop := sealSumsUptoRow.holds Try.pinned (OpenSpec.upto sealSumsSpec)

/-- 'drumlinlaw02.SealMakes', WHERE WHAT IT READS IS OF BULK AT MOST 1048576: true; the input reads as it did. -/
def sealMakesUptoRow : OpenClaim := { program := "ytljdgcchdmiadaa", sum := "f88d9986df7e8c39b2feedab9622fc3c386045017f85f4acb375db137807f20e", func := "drumlin/drumlinlaw02.SealMakes", spec := "sealMakes", apart := false, narrowed := true }
def SealMakesUptoSaid : Prop := sealMakesUptoRow.holds Try.pinned (OpenSpec.upto sealMakesSpec)

/-- 'drumlinlaw02.SealOpens', WHERE WHAT IT READS IS OF BULK AT MOST 1048576: true; the input reads as it did. -/
def sealOpensUptoRow : OpenClaim := { program := "ytljdgcchdmiadaa", sum := "f88d9986df7e8c39b2feedab9622fc3c386045017f85f4acb375db137807f20e", func := "drumlin/drumlinlaw02.SealOpens", spec := "sealOpens", apart := false, narrowed := true }
def SealOpensUptoSaid : Prop := sealOpensUptoRow.holds Try.pinned (OpenSpec.upto sealOpensSpec)

/-- 'drumlinlaw02.SealTurns', WHERE WHAT IT READS IS OF BULK AT MOST 1048576: true; the input reads as it did. -/
def sealTurnsUptoRow : OpenClaim := { program := "ytljdgcchdmiadaa", sum := "f88d9986df7e8c39b2feedab9622fc3c386045017f85f4acb375db137807f20e", func := "drumlin/drumlinlaw02.SealTurns", spec := "sealTurns", apart := false, narrowed := true }
def SealTurnsUptoSaid : Prop := sealTurnsUptoRow.holds Try.pinned (OpenSpec.upto sealTurnsSpec)

/-- 'drumlinlaw02.SealUnlike', WHERE WHAT IT READS IS OF BULK AT MOST 1048576: true; the input reads as it did. -/
def sealUnlikeUptoRow : OpenClaim := { program := "ytljdgcchdmiadaa", sum := "f88d9986df7e8c39b2feedab9622fc3c386045017f85f4acb375db137807f20e", func := "drumlin/drumlinlaw02.SealUnlike", spec := "sealUnlike", apart := false, narrowed := true }
def SealUnlikeUptoSaid : Prop := sealUnlikeUptoRow.holds Try.pinned (OpenSpec.upto sealUnlikeSpec)

end Rows
end Go.Proofs.Ytljdgcchdmiadaa
