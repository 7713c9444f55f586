/-
  No cell of these rows narrows 'for every input' (looked for: loops, veiled, ifaces, maps, wideKeys, modest, calm, conditions, laid).
  DERIVED. THE GIVEN ROWS OF THIS SEAT. 3 by the template 'for every input the law returns true; each argument reads behind the call as it read before'; 0 by the template 'total and deterministic' (their statements: YtakoajdcdoigdaaTotals.lean).
  GIVEN WITH THE SEED: the statements are not yours to turn. If you find one false, say at which input.
  Laid BY PROGRAM, IN A SANDBOX (cutbox-rows.mjs): the forced cells as the released guide's own fill.sh prints them over the translation 9bf50ac2980ffaf0… (all of the seat's roots in one cut). By AI agents, Wed Nov 11 2026. No macro, syntax, notation, axiom, sorry.
-/
import Derived.Test.YtakoajdcdoigdaaChecked
import GoSem.Claim
import GoSem.ClaimJoined
import GoSem.ClaimMapViews
import Derived.JoinedTies
import Derived.KernelRfl
namespace Go.Proofs.Ytakoajdcdoigdaa
/- THE CELL 'sum', in the pinned program and in every row, IS THE sha256 OF THE DUMP (.gsa) THAT YtakoajdcdoigdaaProg.lean LOADS. Nothing in Lean hashes anything: it is a label: what it is worth is what the hold of that sum in a sandbox is worth. -/
noncomputable def Try.pinned : Pinned := { name := "ytakoajdcdoigdaa", sum := "9bf50ac2980ffaf0e81f42d15aa42f08fc63f8152b2585ce5174af344fb2eb92", checked := Try.checked }
namespace Rows
def none {H : Type} : Left H := { results := [], args := [] }

/-- 'drumlinlaw10.ImapGives': WHATEVER THE INPUT: true; the input reads as it did. -/
def imapGivesSpec : ChangeSpec := { name := "imapGives", fn := fun _ => fun
  | [d1, d2] => { results := [.lit (.bool true)], args := [d1, d2] }
  | _ => none }
def imapGivesRow : OpenClaim := { program := "ytakoajdcdoigdaa", sum := "9bf50ac2980ffaf0e81f42d15aa42f08fc63f8152b2585ce5174af344fb2eb92", func := "drumlin/drumlinlaw10.ImapGives", spec := "imapGives", unfollowed := true, recurses := true, apart := false }
def ImapGivesSaid : Prop := imapGivesRow.holds Try.pinned (OpenSpec.ofChange imapGivesSpec)

/-- ITS FALSE NEIGHBOUR: 'it returns false'. Refute it at one input. -/
def imapGivesWrong : ChangeSpec := { name := "imapGives", fn := fun _ => fun
  | [d1, d2] => { results := [.lit (.bool false)], args := [d1, d2] }
  | _ => none }
def ImapGivesWrongFalsely : Prop := imapGivesRow.holds Try.pinned (OpenSpec.ofChange imapGivesWrong)

/-- 'drumlinlaw10.ImapLinks': WHATEVER THE INPUT: true; the input reads as it did. -/
def imapLinksSpec : ChangeSpec := { name := "imapLinks", fn := fun _ => fun
  | [d] => { results := [.lit (.bool true)], args := [d] }
  | _ => none }
def imapLinksRow : OpenClaim := { program := "ytakoajdcdoigdaa", sum := "9bf50ac2980ffaf0e81f42d15aa42f08fc63f8152b2585ce5174af344fb2eb92", func := "drumlin/drumlinlaw10.ImapLinks", spec := "imapLinks", unfollowed := true, recurses := true, apart := false }
def ImapLinksSaid : Prop := imapLinksRow.holds Try.pinned (OpenSpec.ofChange imapLinksSpec)

/-- ITS FALSE NEIGHBOUR: 'it returns false'. Refute it at one input. -/
def imapLinksWrong : ChangeSpec := { name := "imapLinks", fn := fun _ => fun
  | [d] => { results := [.lit (.bool false)], args := [d] }
  | _ => none }
def ImapLinksWrongFalsely : Prop := imapLinksRow.holds Try.pinned (OpenSpec.ofChange imapLinksWrong)

/-- 'drumlinlaw10.ImapLoads': WHATEVER THE INPUT: true; the input reads as it did. -/
def imapLoadsSpec : ChangeSpec := { name := "imapLoads", fn := fun _ => fun
  | [d1, d2] => { results := [.lit (.bool true)], args := [d1, d2] }
  | _ => none }
def imapLoadsRow : OpenClaim := { program := "ytakoajdcdoigdaa", sum := "9bf50ac2980ffaf0e81f42d15aa42f08fc63f8152b2585ce5174af344fb2eb92", func := "drumlin/drumlinlaw10.ImapLoads", spec := "imapLoads", unfollowed := true, recurses := true, apart := false }
def ImapLoadsSaid : Prop := imapLoadsRow.holds Try.pinned (OpenSpec.ofChange imapLoadsSpec)

/-- ITS FALSE NEIGHBOUR: 'it returns false'. Refute it at one input. -/
def imapLoadsWrong : ChangeSpec := { name := "imapLoads", fn := fun _ => fun
  | [d1, d2] => { results := [.lit (.bool false)], args := [d1, d2] }
  | _ => none }
def ImapLoadsWrongFalsely : Prop := imapLoadsRow.holds Try.pinned (OpenSpec.ofChange imapLoadsWrong)

/- THE SECOND FORM. 'bulk': how many values and letters a reading holds, each counted each time it is reached (what is shared counts as often as it is met; a slice's spare places count too). A statement '..UptoSaid' is the law's where the arguments, and the package variables that the reading takes, are together of bulk at most 1048576: NARROWER than '..Said'. Prove '..Said' where nothing that the law and all that it calls make is longer than what came in: it says more and counts as full. Else prove '..UptoSaid'. A law counts once. -/
mutual
def uptoBulk {H : Type} : DataW H → Nat
  | .lit (.string bytes) => bytes.length + 1
  | .lit _ => 1
  | .nil => 1
  | .ptr d => uptoBulk d + 1
  | .slice elems spare => uptoBulkAll elems + uptoBulkAll spare + 1
  | .agg parts => uptoBulkAll parts + 1
  | .iface _ d => uptoBulk d + 1
  | .map entries => uptoBulkEntries entries + 1
  | .held _ => 1
def uptoBulkAll {H : Type} : List (DataW H) → Nat
  | [] => 0
  | d :: r => uptoBulk d + uptoBulkAll r
def uptoBulkEntries {H : Type} : List (Lit × DataW H) → Nat
  | [] => 0
  | x :: r => uptoBulkEntry x + uptoBulkEntries r
def uptoBulkEntry {H : Type} : Lit × DataW H → Nat
  | (.string bytes, d) => bytes.length + uptoBulk d + 1
  | (_, d) => uptoBulk d + 1
 end
def uptoSmall : (H : Type) → List (DataW H) → Bool := fun _ ds => decide (uptoBulkAll ds ≤ 1048576)
def OpenSpec.upto (s : _root_.Go.ChangeSpec) : _root_.Go.OpenSpec := { _root_.Go.OpenSpec.ofChange s with cond := some uptoSmall }

/-- 'drumlinlaw10.ImapGives', WHERE WHAT IT READS IS OF BULK AT MOST 1048576: true; the input reads as it did. -/
def imapGivesUptoRow : OpenClaim := { program := "ytakoajdcdoigdaa", sum := "9bf50ac2980ffaf0e81f42d15aa42f08fc63f8152b2585ce5174af344fb2eb92", func := "drumlin/drumlinlaw10.ImapGives", spec := "imapGives", unfollowed := true, recurses := true, apart := false, narrowed := true }
def ImapGivesUptoSaid : Prop := imapGivesUptoRow.holds Try.pinned (OpenSpec.upto imapGivesSpec)

/-- 'drumlinlaw10.ImapLinks', WHERE WHAT IT READS IS OF BULK AT MOST 1048576: true; the input reads as it did. -/
def imapLinksUptoRow : OpenClaim := { program := "ytakoajdcdoigdaa", sum := "9bf50ac2980ffaf0e81f42d15aa42f08fc63f8152b2585ce5174af344fb2eb92", func := "drumlin/drumlinlaw10.ImapLinks", spec := "imapLinks", unfollowed := true, recurses := true, apart := false, narrowed := true }
def ImapLinksUptoSaid : Prop := imapLinksUptoRow.holds Try.pinned (OpenSpec.upto imapLinksSpec)

/-- 'drumlinlaw10.ImapLoads', WHERE WHAT IT READS IS OF BULK AT MOST 1048576: true; the input reads as it did. -/
def imapLoadsUptoRow : OpenClaim := { program := "ytakoajdcdoigdaa", sum := "9bf50ac2980ffaf0e81f42d15aa42f08fc63f8152b2585ce5174af344fb2eb92", func := "drumlin/drumlinlaw10.ImapLoads", spec := "imapLoads", unfollowed := true, recurses := true, apart := false, narrowed := true }
def ImapLoadsUptoSaid : Prop := imapLoadsUptoRow.holds Try.pinned (OpenSpec.upto imapLoadsSpec)

end Rows
end Go.Proofs.Ytakoajdcdoigdaa
