/-
  No cell of these rows narrows 'for every input' (looked for: loops, veiled, ifaces, maps, wideKeys, modest, calm, conditions, laid).
  DERIVED. THE GIVEN ROWS OF THIS SEAT. 5 by the template 'for every input the law returns true; each argument reads behind the call as it read before'; 0 by the template 'total and deterministic' (their statements: YtcgfhpgjaibmhaaTotals.lean).
  GIVEN WITH THE SEED: the statements are not yours to turn. If you find one false, say at which input.
  Laid BY PROGRAM, IN A SANDBOX (cutbox-rows.mjs): the forced cells as the released guide's own fill.sh prints them over the translation 5e6fa1994f55e23a… (all of the seat's roots in one cut). By AI agents, Wed Nov 11 2026. No macro, syntax, notation, axiom, sorry.
-/
import Derived.Test.YtcgfhpgjaibmhaaChecked
import GoSem.Claim
import GoSem.ClaimJoined
import GoSem.ClaimMapViews
import Derived.JoinedTies
import Derived.KernelRfl
namespace Go.Proofs.Ytcgfhpgjaibmhaa
/- THE CELL 'sum', in the pinned program and in every row, IS THE sha256 OF THE DUMP (.gsa) THAT YtcgfhpgjaibmhaaProg.lean LOADS. Nothing in Lean hashes anything: it is a label: what it is worth is what the hold of that sum in a sandbox is worth. -/
noncomputable def Try.pinned : Pinned := { name := "ytcgfhpgjaibmhaa", sum := "5e6fa1994f55e23ab453a8059e4a18c8f2179bce1c5bd8873c6f75d69c8dd6f0", checked := Try.checked }
namespace Rows
def none {H : Type} : Left H := { results := [], args := [] }

/-- 'drumlinlaw06.DirentNames': WHATEVER THE INPUT: true; the input reads as it did. -/
def direntNamesSpec : ChangeSpec := { name := "direntNames", fn := fun _ => fun
  | [d] => { results := [.lit (.bool true)], args := [d] }
  | _ => none }
def direntNamesRow : OpenClaim := { program := "ytcgfhpgjaibmhaa", sum := "5e6fa1994f55e23ab453a8059e4a18c8f2179bce1c5bd8873c6f75d69c8dd6f0", func := "drumlin/drumlinlaw06.DirentNames", spec := "direntNames", inPlace := ["internal/bytealg.IndexByteString"], apart := false }
def DirentNamesSaid : Prop := direntNamesRow.holds Try.pinned (OpenSpec.ofChange direntNamesSpec)

/-- ITS FALSE NEIGHBOUR: 'it returns false'. Refute it at one input. -/
def direntNamesWrong : ChangeSpec := { name := "direntNames", fn := fun _ => fun
  | [d] => { results := [.lit (.bool false)], args := [d] }
  | _ => none }
def DirentNamesWrongFalsely : Prop := direntNamesRow.holds Try.pinned (OpenSpec.ofChange direntNamesWrong)

/-- 'drumlinlaw06.DirentFinds': WHATEVER THE INPUT: true; the input reads as it did. -/
def direntFindsSpec : ChangeSpec := { name := "direntFinds", fn := fun _ => fun
  | [d1, d2] => { results := [.lit (.bool true)], args := [d1, d2] }
  | _ => none }
def direntFindsRow : OpenClaim := { program := "ytcgfhpgjaibmhaa", sum := "5e6fa1994f55e23ab453a8059e4a18c8f2179bce1c5bd8873c6f75d69c8dd6f0", func := "drumlin/drumlinlaw06.DirentFinds", spec := "direntFinds", inPlace := ["internal/bytealg.IndexByteString"], unfollowed := true, recurses := true, apart := false }
def DirentFindsSaid : Prop := direntFindsRow.holds Try.pinned (OpenSpec.ofChange direntFindsSpec)

/-- ITS FALSE NEIGHBOUR: 'it returns false'. Refute it at one input. -/
def direntFindsWrong : ChangeSpec := { name := "direntFinds", fn := fun _ => fun
  | [d1, d2] => { results := [.lit (.bool false)], args := [d1, d2] }
  | _ => none }
def DirentFindsWrongFalsely : Prop := direntFindsRow.holds Try.pinned (OpenSpec.ofChange direntFindsWrong)

/-- 'drumlinlaw06.DirentWrites': WHATEVER THE INPUT: true; the input reads as it did. -/
def direntWritesSpec : ChangeSpec := { name := "direntWrites", fn := fun _ => fun
  | [d] => { results := [.lit (.bool true)], args := [d] }
  | _ => none }
def direntWritesRow : OpenClaim := { program := "ytcgfhpgjaibmhaa", sum := "5e6fa1994f55e23ab453a8059e4a18c8f2179bce1c5bd8873c6f75d69c8dd6f0", func := "drumlin/drumlinlaw06.DirentWrites", spec := "direntWrites", inPlace := ["internal/bytealg.IndexByteString"], apart := false }
def DirentWritesSaid : Prop := direntWritesRow.holds Try.pinned (OpenSpec.ofChange direntWritesSpec)

/-- ITS FALSE NEIGHBOUR: 'it returns false'. Refute it at one input. -/
def direntWritesWrong : ChangeSpec := { name := "direntWrites", fn := fun _ => fun
  | [d] => { results := [.lit (.bool false)], args := [d] }
  | _ => none }
def DirentWritesWrongFalsely : Prop := direntWritesRow.holds Try.pinned (OpenSpec.ofChange direntWritesWrong)

/-- 'drumlinlaw06.DirentReads': WHATEVER THE INPUT: true; the input reads as it did. -/
def direntReadsSpec : ChangeSpec := { name := "direntReads", fn := fun _ => fun
  | [d] => { results := [.lit (.bool true)], args := [d] }
  | _ => none }
def direntReadsRow : OpenClaim := { program := "ytcgfhpgjaibmhaa", sum := "5e6fa1994f55e23ab453a8059e4a18c8f2179bce1c5bd8873c6f75d69c8dd6f0", func := "drumlin/drumlinlaw06.DirentReads", spec := "direntReads", inPlace := ["internal/bytealg.IndexByteString"], apart := false }
def DirentReadsSaid : Prop := direntReadsRow.holds Try.pinned (OpenSpec.ofChange direntReadsSpec)

/-- ITS FALSE NEIGHBOUR: 'it returns false'. Refute it at one input. -/
def direntReadsWrong : ChangeSpec := { name := "direntReads", fn := fun _ => fun
  | [d] => { results := [.lit (.bool false)], args := [d] }
  | _ => none }
def DirentReadsWrongFalsely : Prop := direntReadsRow.holds Try.pinned (OpenSpec.ofChange direntReadsWrong)

/-- 'drumlinlaw06.DirentFills': WHATEVER THE INPUT: true; the input reads as it did. -/
def direntFillsSpec : ChangeSpec := { name := "direntFills", fn := fun _ => fun
  | [d] => { results := [.lit (.bool true)], args := [d] }
  | _ => none }
def direntFillsRow : OpenClaim := { program := "ytcgfhpgjaibmhaa", sum := "5e6fa1994f55e23ab453a8059e4a18c8f2179bce1c5bd8873c6f75d69c8dd6f0", func := "drumlin/drumlinlaw06.DirentFills", spec := "direntFills", inPlace := ["internal/bytealg.IndexByteString"], unfollowed := true, recurses := true, apart := false }
def DirentFillsSaid : Prop := direntFillsRow.holds Try.pinned (OpenSpec.ofChange direntFillsSpec)

/-- ITS FALSE NEIGHBOUR: 'it returns false'. Refute it at one input. -/
def direntFillsWrong : ChangeSpec := { name := "direntFills", fn := fun _ => fun
  | [d] => { results := [.lit (.bool false)], args := [d] }
  | _ => none }
def DirentFillsWrongFalsely : Prop := direntFillsRow.holds Try.pinned (OpenSpec.ofChange direntFillsWrong)

/- THE SECOND FORM. 'bulk': how many values and letters a reading holds, each counted each time it is reached (what is shared counts as often as it is met; a slice's spare places count too). A statement '..UptoSaid' is the law's where the arguments, and the package variables that the reading takes, are together of bulk at most 1048576: NARROWER than '..Said'. Prove '..Said' where nothing that the law and all that it calls make is longer than what came in: it says more and counts as full. Else prove '..UptoSaid'. A law counts once. -/
mutual
def uptoBulk {H : Type} : DataW H → Nat
  | .lit (.string bytes) => bytes.length + 1
  | .lit _ => 1
  | .nil => 1
  | .ptr d => uptoBulk d + 1
  | .slice elems spare => uptoBulkAll elems + uptoBulkAll spare + 1
  | .agg parts => uptoBulkAll parts + 1
  | .iface _ d => uptoBulk d + 1
  | .map entries => uptoBulkEntries entries + 1
  | .held _ => 1
def uptoBulkAll {H : Type} : List (DataW H) → Nat
  | [] => 0
  | d :: r => uptoBulk d + uptoBulkAll r
def uptoBulkEntries {H : Type} : List (Lit × DataW H) → Nat
  | [] => 0
  | x :: r => uptoBulkEntry x + uptoBulkEntries r
def uptoBulkEntry {H : Type} : Lit × DataW H → Nat
  | (.string bytes, d) => bytes.length + uptoBulk d + 1
  | (_, d) => uptoBulk d + 1
 end
def uptoSmall : (H : Type) → List (DataW H) → Bool := fun _ ds => decide (uptoBulkAll ds ≤ 1048576)
def OpenSpec.upto (s : _root_.Go.ChangeSpec) : _root_.Go.OpenSpec := { _root_.Go.OpenSpec.ofChange s with cond := some uptoSmall }

/-- 'drumlinlaw06.DirentNames', WHERE WHAT IT READS IS OF BULK AT MOST 1048576: true; the input reads as it did. -/
def direntNamesUptoRow : OpenClaim := { program := "ytcgfhpgjaibmhaa", sum := "5e6fa1994f55e23ab453a8059e4a18c8f2179bce1c5bd8873c6f75d69c8dd6f0", func := "drumlin/drumlinlaw06.DirentNames", spec := "direntNames", inPlace := ["internal/bytealg.IndexByteString"], apart := false, narrowed := true }
def DirentNamesUptoSaid : Prop := direntNamesUptoRow.holds Try.pinned (OpenSpec.upto direntNamesSpec)

/-- 'drumlinlaw06.DirentFinds', WHERE WHAT IT READS IS OF BULK AT MOST 1048576: true; the input reads as it did. -/
def direntFindsUptoRow : OpenClaim := { program := "ytcgfhpgjaibmhaa", sum := "5e6fa1994f55e23ab453a8059e4a18c8f2179bce1c5bd8873c6f75d69c8dd6f0", func := "drumlin/drumlinlaw06.DirentFinds", spec := "direntFinds", inPlace := ["internal/bytealg.IndexByteString"], unfollowed := true, recurses := true, apart := false, narrowed := true }
def DirentFindsUptoSaid : Prop := direntFindsUptoRow.holds Try.pinned (OpenSpec.upto direntFindsSpec)

/-- 'drumlinlaw06.DirentWrites', WHERE WHAT IT READS IS OF BULK AT MOST 1048576: true; the input reads as it did. -/
def direntWritesUptoRow : OpenClaim := { program := "ytcgfhpgjaibmhaa", sum := "5e6fa1994f55e23ab453a8059e4a18c8f2179bce1c5bd8873c6f75d69c8dd6f0", func := "drumlin/drumlinlaw06.DirentWrites", spec := "direntWrites", inPlace := ["internal/bytealg.IndexByteString"], apart := false, narrowed := true }
def DirentWritesUptoSaid : Prop := direntWritesUptoRow.holds Try.pinned (OpenSpec.upto direntWritesSpec)

/-- 'drumlinlaw06.DirentReads', WHERE WHAT IT READS IS OF BULK AT MOST 1048576: true; the input reads as it did. -/
def direntReadsUptoRow : OpenClaim := { program := "ytcgfhpgjaibmhaa", sum := "5e6fa1994f55e23ab453a8059e4a18c8f2179bce1c5bd8873c6f75d69c8dd6f0", func := "drumlin/drumlinlaw06.DirentReads", spec := "direntReads", inPlace := ["internal/bytealg.IndexByteString"], apart := false, narrowed := true }
def DirentReadsUptoSaid : Prop := direntReadsUptoRow.holds Try.pinned (OpenSpec.upto direntReadsSpec)

/-- 'drumlinlaw06.DirentFills', WHERE WHAT IT READS IS OF BULK AT MOST 1048576: true; the input reads as it did. -/
def direntFillsUptoRow : OpenClaim := { program := "ytcgfhpgjaibmhaa", sum := "5e6fa1994f55e23ab453a8059e4a18c8f2179bce1c5bd8873c6f75d69c8dd6f0", func := "drumlin/drumlinlaw06.DirentFills", spec := "direntFills", inPlace := ["internal/bytealg.IndexByteString"], unfollowed := true, recurses := true, apart := false, narrowed := true }
def DirentFillsUptoSaid : Prop := direntFillsUptoRow.holds Try.pinned (OpenSpec.upto direntFillsSpec)

end Rows
end Go.Proofs.Ytcgfhpgjaibmhaa
