/-
  No cell of these rows narrows 'for every input' (looked for: loops, veiled, ifaces, maps, wideKeys, modest, calm, conditions, laid).
  DERIVED. THE GIVEN ROWS OF THIS SEAT. 4 by the template 'for every input the law returns true; each argument reads behind the call as it read before'; 0 by the template 'total and deterministic' (their statements: YteepgdfjbpfakaaTotals.lean).
  GIVEN WITH THE SEED: the statements are not yours to turn. If you find one false, say at which input.
  Laid BY PROGRAM, IN A SANDBOX (cutbox-rows.mjs): the forced cells as the released guide's own fill.sh prints them over the translation 6ec2979a8ff40f7b… (all of the seat's roots in one cut). By AI agents, Wed Nov 11 2026. No macro, syntax, notation, axiom, sorry.
-/
import Derived.Test.YteepgdfjbpfakaaChecked
import GoSem.Claim
import GoSem.ClaimJoined
import GoSem.ClaimMapViews
import Derived.JoinedTies
import Derived.KernelRfl
namespace Go.Proofs.Yteepgdfjbpfakaa
/- THE CELL 'sum', in the pinned program and in every row, IS THE sha256 OF THE DUMP (.gsa) THAT YteepgdfjbpfakaaProg.lean LOADS. Nothing in Lean hashes anything: it is a label: what it is worth is what the hold of that sum in a sandbox is worth. -/
noncomputable def Try.pinned : Pinned := { name := "yteepgdfjbpfakaa", sum := "6ec2979a8ff40f7bd1590f3931d9baca6138a4cf7e05fde3037fdf2b16970595", checked := Try.checked }
namespace Rows
def none {H : Type} : Left H := { results := [], args := [] }

/-- 'drumlinlaw04.GeomChecks': WHATEVER THE INPUT: true; the input reads as it did. -/
def geomChecksSpec : ChangeSpec := { name := "geomChecks", fn := fun _ => fun
  | [d] => { results := [.lit (.bool true)], args := [d] }
  | _ => none }
def geomChecksRow : OpenClaim := { program := "yteepgdfjbpfakaa", sum := "6ec2979a8ff40f7bd1590f3931d9baca6138a4cf7e05fde3037fdf2b16970595", func := "drumlin/drumlinlaw04.GeomChecks", spec := "geomChecks", apart := false }
def GeomChecksSaid : Prop := geomChecksRow.holds Try.pinned (OpenSpec.ofChange geomChecksSpec)

/-- ITS FALSE NEIGHBOUR: 'it returns false'. Refute it at one input. -/
def geomChecksWrong : ChangeSpec := { name := "geomChecks", fn := fun _ => fun
  | [d] => { results := [.lit (.bool false)], args := [d] }
  | _ => none }
def GeomChecksWrongFalsely : Prop := geomChecksRow.holds Try.pinned (OpenSpec.ofChange geomChecksWrong)

/-- 'drumlinlaw04.GeomGrows': WHATEVER THE INPUT: true; the input reads as it did. -/
def geomGrowsSpec : ChangeSpec := { name := "geomGrows", fn := fun _ => fun
  | [d1, d2] => { results := [.lit (.bool true)], args := [d1, d2] }
  | _ => none }
def geomGrowsRow : OpenClaim := { program := "yteepgdfjbpfakaa", sum := "6ec2979a8ff40f7bd1590f3931d9baca6138a4cf7e05fde3037fdf2b16970595", func := "drumlin/drumlinlaw04.GeomGrows", spec := "geomGrows", apart := false }
def GeomGrowsSaid : Prop := geomGrowsRow.holds Try.pinned (OpenSpec.ofChange geomGrowsSpec)

/-- ITS FALSE NEIGHBOUR: 'it returns false'. Refute it at one input. -/
def geomGrowsWrong : ChangeSpec := { name := "geomGrows", fn := fun _ => fun
  | [d1, d2] => { results := [.lit (.bool false)], args := [d1, d2] }
  | _ => none }
def GeomGrowsWrongFalsely : Prop := geomGrowsRow.holds Try.pinned (OpenSpec.ofChange geomGrowsWrong)

/-- 'drumlinlaw04.GeomPlaces': WHATEVER THE INPUT: true; the input reads as it did. -/
def geomPlacesSpec : ChangeSpec := { name := "geomPlaces", fn := fun _ => fun
  | [d1, d2] => { results := [.lit (.bool true)], args := [d1, d2] }
  | _ => none }
def geomPlacesRow : OpenClaim := { program := "yteepgdfjbpfakaa", sum := "6ec2979a8ff40f7bd1590f3931d9baca6138a4cf7e05fde3037fdf2b16970595", func := "drumlin/drumlinlaw04.GeomPlaces", spec := "geomPlaces", apart := false }
def GeomPlacesSaid : Prop := geomPlacesRow.holds Try.pinned (OpenSpec.ofChange geomPlacesSpec)

/-- ITS FALSE NEIGHBOUR: 'it returns false'. Refute it at one input. -/
def geomPlacesWrong : ChangeSpec := { name := "geomPlaces", fn := fun _ => fun
  | [d1, d2] => { results := [.lit (.bool false)], args := [d1, d2] }
  | _ => none }
def GeomPlacesWrongFalsely : Prop := geomPlacesRow.holds Try.pinned (OpenSpec.ofChange geomPlacesWrong)

/-- 'drumlinlaw04.GeomSupers': WHATEVER THE INPUT: true; the input reads as it did. -/
def geomSupersSpec : ChangeSpec := { name := "geomSupers", fn := fun _ => fun
  | [d1, d2, d3] => { results := [.lit (.bool true)], args := [d1, d2, d3] }
  | _ => none }
def geomSupersRow : OpenClaim := { program := "yteepgdfjbpfakaa", sum := "6ec2979a8ff40f7bd1590f3931d9baca6138a4cf7e05fde3037fdf2b16970595", func := "drumlin/drumlinlaw04.GeomSupers", spec := "geomSupers", unfollowed := true, recurses := true, apart := false }
def GeomSupersSaid : Prop := geomSupersRow.holds Try.pinned (OpenSpec.ofChange geomSupersSpec)

/-- ITS FALSE NEIGHBOUR: 'it returns false'. Refute it at one input. -/
def geomSupersWrong : ChangeSpec := { name := "geomSupers", fn := fun _ => fun
  | [d1, d2, d3] => { results := [.lit (.bool false)], args := [d1, d2, d3] }
  | _ => none }
def GeomSupersWrongFalsely : Prop := geomSupersRow.holds Try.pinned (OpenSpec.ofChange geomSupersWrong)

/- THE SECOND FORM. 'bulk': how many values and letters a reading holds, each counted each time it is reached (what is shared counts as often as it is met; a slice's spare places count too). A statement '..UptoSaid' is the law's where the arguments, and the package variables that the reading takes, are together of bulk at most 1048576: NARROWER than '..Said'. Prove '..Said' where nothing that the law and all that it calls make is longer than what came in: it says more and counts as full. Else prove '..UptoSaid'. A law counts once. -/
mutual
def uptoBulk {H : Type} : DataW H → Nat
  | .lit (.string bytes) => bytes.length + 1
  | .lit _ => 1
  | .nil => 1
  | .ptr d => uptoBulk d + 1
  | .slice elems spare => uptoBulkAll elems + uptoBulkAll spare + 1
  | .agg parts => uptoBulkAll parts + 1
  | .iface _ d => uptoBulk d + 1
  | .map entries => uptoBulkEntries entries + 1
  | .held _ => 1
def uptoBulkAll {H : Type} : List (DataW H) → Nat
  | [] => 0
  | d :: r => uptoBulk d + uptoBulkAll r
def uptoBulkEntries {H : Type} : List (Lit × DataW H) → Nat
  | [] => 0
  | x :: r => uptoBulkEntry x + uptoBulkEntries r
def uptoBulkEntry {H : Type} : Lit × DataW H → Nat
  | (.string bytes, d) => bytes.length + uptoBulk d + 1
  | (_, d) => uptoBulk d + 1
 end
def uptoSmall : (H : Type) → List (DataW H) → Bool := fun _ ds => decide (uptoBulkAll ds ≤ 1048576)
def OpenSpec.upto (s : _root_.Go.ChangeSpec) : _root_.Go.OpenSpec := { _root_.Go.OpenSpec.ofChange s with cond := some uptoSmall }

/-- 'drumlinlaw04.GeomChecks', WHERE WHAT IT READS IS OF BULK AT MOST 1048576: true; the input reads as it did. -/
def geomChecksUptoRow : OpenClaim := { program := "yteepgdfjbpfakaa", sum := "6ec2979a8ff40f7bd1590f3931d9baca6138a4cf7e05fde3037fdf2b16970595", func := "drumlin/drumlinlaw04.GeomChecks", spec := "geomChecks", apart := false, narrowed := true }
def GeomChecksUptoSaid : Prop := geomChecksUptoRow.holds Try.pinned (OpenSpec.upto geomChecksSpec)

/-- 'drumlinlaw04.GeomGrows', WHERE WHAT IT READS IS OF BULK AT MOST 1048576: true; the input reads as it did. -/
def geomGrowsUptoRow : OpenClaim := { program := "yteepgdfjbpfakaa", sum := "6ec2979a8ff40f7bd1590f3931d9baca6138a4cf7e05fde3037fdf2b16970595", func := "drumlin/drumlinlaw04.GeomGrows", spec := "geomGrows", apart := false, narrowed := true }
def GeomGrowsUptoSaid : Prop := geomGrowsUptoRow.holds Try.pinned (OpenSpec.upto geomGrowsSpec)

/-- 'drumlinlaw04.GeomPlaces', WHERE WHAT IT READS IS OF BULK AT MOST 1048576: true; the input reads as it did. -/
def geomPlacesUptoRow : OpenClaim := { program := "yteepgdfjbpfakaa", sum := "6ec2979a8ff40f7bd1590f3931d9baca6138a4cf7e05fde3037fdf2b16970595", func := "drumlin/drumlinlaw04.GeomPlaces", spec := "geomPlaces", apart := false, narrowed := true }
def GeomPlacesUptoSaid : Prop := geomPlacesUptoRow.holds Try.pinned (OpenSpec.upto geomPlacesSpec)

/-- 'drumlinlaw04.GeomSupers', WHERE WHAT IT READS IS OF BULK AT MOST 1048576: true; the input reads as it did. -/
def geomSupersUptoRow : OpenClaim := { program := "yteepgdfjbpfakaa", sum := "6ec2979a8ff40f7bd1590f3931d9baca6138a4cf7e05fde3037fdf2b16970595", func := "drumlin/drumlinlaw04.GeomSupers", spec := "geomSupers", unfollowed := true, recurses := true, apart := false, narrowed := true }
def GeomSupersUptoSaid : Prop := geomSupersUptoRow.holds Try.pinned (OpenSpec.upto geomSupersSpec)

end Rows
end Go.Proofs.Yteepgdfjbpfakaa
