/-
  No cell of these rows narrows 'for every input' (looked for: loops, veiled, ifaces, maps, wideKeys, modest, calm, conditions, laid).
  DERIVED. THE GIVEN ROWS OF THIS SEAT. 7 by the template 'for every input the law returns true; each argument reads behind the call as it read before'; 0 by the template 'total and deterministic' (their statements: YtlcbfpcabalgcaaTotals.lean).
  GIVEN WITH THE SEED: the statements are not yours to turn. If you find one false, say at which input.
  Laid BY PROGRAM, IN A SANDBOX (cutbox-rows.mjs): the forced cells as the released guide's own fill.sh prints them over the translation 215bcfc6f2c8528c… (all of the seat's roots in one cut). By AI agents, Wed Nov 11 2026. No macro, syntax, notation, axiom, sorry.
-/
import Derived.Test.YtlcbfpcabalgcaaChecked
import GoSem.Claim
import GoSem.ClaimJoined
import GoSem.ClaimMapViews
import Derived.JoinedTies
import Derived.KernelRfl
namespace Go.Proofs.Ytlcbfpcabalgcaa
/- THE CELL 'sum', in the pinned program and in every row, IS THE sha256 OF THE DUMP (.gsa) THAT YtlcbfpcabalgcaaProg.lean LOADS. Nothing in Lean hashes anything: it is a label: what it is worth is what the hold of that sum in a sandbox is worth. -/
noncomputable def Try.pinned : Pinned := { name := "ytlcbfpcabalgcaa", sum := "215bcfc6f2c8528c6d08e41f3157219457a3b42fc17f3edf562c8f5b53071ac0", checked := Try.checked }
namespace Rows
def none {H : Type} : Left H := { results := [], args := [] }

/-- 'drumlinlaw05.CodecInodes': WHATEVER THE INPUT: true; the input reads as it did. -/
def codecInodesSpec : ChangeSpec := { name := "codecInodes", fn := fun _ => fun
  | [d1, d2] => { results := [.lit (.bool true)], args := [d1, d2] }
  | _ => none }
def codecInodesRow : OpenClaim := { program := "ytlcbfpcabalgcaa", sum := "215bcfc6f2c8528c6d08e41f3157219457a3b42fc17f3edf562c8f5b53071ac0", func := "drumlin/drumlinlaw05.CodecInodes", spec := "codecInodes", unfollowed := true, recurses := true, apart := false }
def CodecInodesSaid : Prop := codecInodesRow.holds Try.pinned (OpenSpec.ofChange codecInodesSpec)

/-- ITS FALSE NEIGHBOUR: 'it returns false'. Refute it at one input. -/
def codecInodesWrong : ChangeSpec := { name := "codecInodes", fn := fun _ => fun
  | [d1, d2] => { results := [.lit (.bool false)], args := [d1, d2] }
  | _ => none }
def CodecInodesWrongFalsely : Prop := codecInodesRow.holds Try.pinned (OpenSpec.ofChange codecInodesWrong)

/-- 'drumlinlaw05.CodecHeaders': WHATEVER THE INPUT: true; the input reads as it did. -/
def codecHeadersSpec : ChangeSpec := { name := "codecHeaders", fn := fun _ => fun
  | [d1, d2] => { results := [.lit (.bool true)], args := [d1, d2] }
  | _ => none }
def codecHeadersRow : OpenClaim := { program := "ytlcbfpcabalgcaa", sum := "215bcfc6f2c8528c6d08e41f3157219457a3b42fc17f3edf562c8f5b53071ac0", func := "drumlin/drumlinlaw05.CodecHeaders", spec := "codecHeaders", unfollowed := true, recurses := true, apart := false }
def CodecHeadersSaid : Prop := codecHeadersRow.holds Try.pinned (OpenSpec.ofChange codecHeadersSpec)

/-- ITS FALSE NEIGHBOUR: 'it returns false'. Refute it at one input. -/
def codecHeadersWrong : ChangeSpec := { name := "codecHeaders", fn := fun _ => fun
  | [d1, d2] => { results := [.lit (.bool false)], args := [d1, d2] }
  | _ => none }
def CodecHeadersWrongFalsely : Prop := codecHeadersRow.holds Try.pinned (OpenSpec.ofChange codecHeadersWrong)

/-- 'drumlinlaw05.CodecPointers': WHATEVER THE INPUT: true; the input reads as it did. -/
def codecPointersSpec : ChangeSpec := { name := "codecPointers", fn := fun _ => fun
  | [d1, d2] => { results := [.lit (.bool true)], args := [d1, d2] }
  | _ => none }
def codecPointersRow : OpenClaim := { program := "ytlcbfpcabalgcaa", sum := "215bcfc6f2c8528c6d08e41f3157219457a3b42fc17f3edf562c8f5b53071ac0", func := "drumlin/drumlinlaw05.CodecPointers", spec := "codecPointers", unfollowed := true, recurses := true, apart := false }
def CodecPointersSaid : Prop := codecPointersRow.holds Try.pinned (OpenSpec.ofChange codecPointersSpec)

/-- ITS FALSE NEIGHBOUR: 'it returns false'. Refute it at one input. -/
def codecPointersWrong : ChangeSpec := { name := "codecPointers", fn := fun _ => fun
  | [d1, d2] => { results := [.lit (.bool false)], args := [d1, d2] }
  | _ => none }
def CodecPointersWrongFalsely : Prop := codecPointersRow.holds Try.pinned (OpenSpec.ofChange codecPointersWrong)

/-- 'drumlinlaw05.CodecUses': WHATEVER THE INPUT: true; the input reads as it did. -/
def codecUsesSpec : ChangeSpec := { name := "codecUses", fn := fun _ => fun
  | [d1, d2] => { results := [.lit (.bool true)], args := [d1, d2] }
  | _ => none }
def codecUsesRow : OpenClaim := { program := "ytlcbfpcabalgcaa", sum := "215bcfc6f2c8528c6d08e41f3157219457a3b42fc17f3edf562c8f5b53071ac0", func := "drumlin/drumlinlaw05.CodecUses", spec := "codecUses", unfollowed := true, recurses := true, apart := false }
def CodecUsesSaid : Prop := codecUsesRow.holds Try.pinned (OpenSpec.ofChange codecUsesSpec)

/-- ITS FALSE NEIGHBOUR: 'it returns false'. Refute it at one input. -/
def codecUsesWrong : ChangeSpec := { name := "codecUses", fn := fun _ => fun
  | [d1, d2] => { results := [.lit (.bool false)], args := [d1, d2] }
  | _ => none }
def CodecUsesWrongFalsely : Prop := codecUsesRow.holds Try.pinned (OpenSpec.ofChange codecUsesWrong)

/-- 'drumlinlaw05.CodecSlots': WHATEVER THE INPUT: true; the input reads as it did. -/
def codecSlotsSpec : ChangeSpec := { name := "codecSlots", fn := fun _ => fun
  | [d1, d2] => { results := [.lit (.bool true)], args := [d1, d2] }
  | _ => none }
def codecSlotsRow : OpenClaim := { program := "ytlcbfpcabalgcaa", sum := "215bcfc6f2c8528c6d08e41f3157219457a3b42fc17f3edf562c8f5b53071ac0", func := "drumlin/drumlinlaw05.CodecSlots", spec := "codecSlots", unfollowed := true, recurses := true, apart := false }
def CodecSlotsSaid : Prop := codecSlotsRow.holds Try.pinned (OpenSpec.ofChange codecSlotsSpec)

/-- ITS FALSE NEIGHBOUR: 'it returns false'. Refute it at one input. -/
def codecSlotsWrong : ChangeSpec := { name := "codecSlots", fn := fun _ => fun
  | [d1, d2] => { results := [.lit (.bool false)], args := [d1, d2] }
  | _ => none }
def CodecSlotsWrongFalsely : Prop := codecSlotsRow.holds Try.pinned (OpenSpec.ofChange codecSlotsWrong)

/-- 'drumlinlaw05.CodecRecords': WHATEVER THE INPUT: true; the input reads as it did. -/
def codecRecordsSpec : ChangeSpec := { name := "codecRecords", fn := fun _ => fun
  | [d1, d2] => { results := [.lit (.bool true)], args := [d1, d2] }
  | _ => none }
def codecRecordsRow : OpenClaim := { program := "ytlcbfpcabalgcaa", sum := "215bcfc6f2c8528c6d08e41f3157219457a3b42fc17f3edf562c8f5b53071ac0", func := "drumlin/drumlinlaw05.CodecRecords", spec := "codecRecords", unfollowed := true, recurses := true, apart := false }
def CodecRecordsSaid : Prop := codecRecordsRow.holds Try.pinned (OpenSpec.ofChange codecRecordsSpec)

/-- ITS FALSE NEIGHBOUR: 'it returns false'. Refute it at one input. -/
def codecRecordsWrong : ChangeSpec := { name := "codecRecords", fn := fun _ => fun
  | [d1, d2] => { results := [.lit (.bool false)], args := [d1, d2] }
  | _ => none }
def CodecRecordsWrongFalsely : Prop := codecRecordsRow.holds Try.pinned (OpenSpec.ofChange codecRecordsWrong)

/-- 'drumlinlaw05.CodecSummaries': WHATEVER THE INPUT: true; the input reads as it did. -/
def codecSummariesSpec : ChangeSpec := { name := "codecSummaries", fn := fun _ => fun
  | [d1, d2] => { results := [.lit (.bool true)], args := [d1, d2] }
  | _ => none }
def codecSummariesRow : OpenClaim := { program := "ytlcbfpcabalgcaa", sum := "215bcfc6f2c8528c6d08e41f3157219457a3b42fc17f3edf562c8f5b53071ac0", func := "drumlin/drumlinlaw05.CodecSummaries", spec := "codecSummaries", unfollowed := true, recurses := true, apart := false }
def CodecSummariesSaid : Prop := codecSummariesRow.holds Try.pinned (OpenSpec.ofChange codecSummariesSpec)

/-- ITS FALSE NEIGHBOUR: 'it returns false'. Refute it at one input. -/
def codecSummariesWrong : ChangeSpec := { name := "codecSummaries", fn := fun _ => fun
  | [d1, d2] => { results := [.lit (.bool false)], args := [d1, d2] }
  | _ => none }
def CodecSummariesWrongFalsely : Prop := codecSummariesRow.holds Try.pinned (OpenSpec.ofChange codecSummariesWrong)

/- THE SECOND FORM. 'bulk': how many values and letters a reading holds, each counted each time it is reached (what is shared counts as often as it is met; a slice's spare places count too). A statement '..UptoSaid' is the law's where the arguments, and the package variables that the reading takes, are together of bulk at most 1048576: NARROWER than '..Said'. Prove '..Said' where nothing that the law and all that it calls make is longer than what came in: it says more and counts as full. Else prove '..UptoSaid'. A law counts once. -/
mutual
def uptoBulk {H : Type} : DataW H → Nat
  | .lit (.string bytes) => bytes.length + 1
  | .lit _ => 1
  | .nil => 1
  | .ptr d => uptoBulk d + 1
  | .slice elems spare => uptoBulkAll elems + uptoBulkAll spare + 1
  | .agg parts => uptoBulkAll parts + 1
  | .iface _ d => uptoBulk d + 1
  | .map entries => uptoBulkEntries entries + 1
  | .held _ => 1
def uptoBulkAll {H : Type} : List (DataW H) → Nat
  | [] => 0
  | d :: r => uptoBulk d + uptoBulkAll r
def uptoBulkEntries {H : Type} : List (Lit × DataW H) → Nat
  | [] => 0
  | x :: r => uptoBulkEntry x + uptoBulkEntries r
def uptoBulkEntry {H : Type} : Lit × DataW H → Nat
  | (.string bytes, d) => bytes.length + uptoBulk d + 1
  | (_, d) => uptoBulk d + 1
 end
def uptoSmall : (H : Type) → List (DataW H) → Bool := fun _ ds => decide (uptoBulkAll ds ≤ 1048576)
def OpenSpec.upto (s : _root_.Go.ChangeSpec) : _root_.Go.OpenSpec := { _root_.Go.OpenSpec.ofChange s with cond := some uptoSmall }

/-- 'drumlinlaw05.CodecInodes', WHERE WHAT IT READS IS OF BULK AT MOST 1048576: true; the input reads as it did. -/
def codecInodesUptoRow : OpenClaim := { program := "ytlcbfpcabalgcaa", sum := "215bcfc6f2c8528c6d08e41f3157219457a3b42fc17f3edf562c8f5b53071ac0", func := "drumlin/drumlinlaw05.CodecInodes", spec := "codecInodes", unfollowed := true, recurses := true, apart := false, narrowed := true }
def CodecInodesUptoSaid : Prop := codecInodesUptoRow.holds Try.pinned (OpenSpec.upto codecInodesSpec)

/-- 'drumlinlaw05.CodecHeaders', WHERE WHAT IT READS IS OF BULK AT MOST 1048576: true; the input reads as it did. -/
def codecHeadersUptoRow : OpenClaim := { program := "ytlcbfpcabalgcaa", sum := "215bcfc6f2c8528c6d08e41f3157219457a3b42fc17f3edf562c8f5b53071ac0", func := "drumlin/drumlinlaw05.CodecHeaders", spec := "codecHeaders", unfollowed := true, recurses := true, apart := false, narrowed := true }
def CodecHeadersUptoSaid : Prop := codecHeadersUptoRow.holds Try.pinned (OpenSpec.upto codecHeadersSpec)

/-- 'drumlinlaw05.CodecPointers', WHERE WHAT IT READS IS OF BULK AT MOST 1048576: true; the input reads as it did. -/
def codecPointersUptoRow : OpenClaim := { program := "ytlcbfpcabalgcaa", sum := "215bcfc6f2c8528c6d08e41f3157219457a3b42fc17f3edf562c8f5b53071ac0", func := "drumlin/drumlinlaw05.CodecPointers", spec := "codecPointers", unfollowed := true, recurses := true, apart := false, narrowed := true }
def CodecPointersUptoSaid : Prop := codecPointersUptoRow.holds Try.pinned (OpenSpec.upto codecPointersSpec)

/-- 'drumlinlaw05.CodecUses', WHERE WHAT IT READS IS OF BULK AT MOST 1048576: true; the input reads as it did. -/
def codecUsesUptoRow : OpenClaim := { program := "ytlcbfpcabalgcaa", sum := "215bcfc6f2c8528c6d08e41f3157219457a3b42fc17f3edf562c8f5b53071ac0", func := "drumlin/drumlinlaw05.CodecUses", spec := "codecUses", unfollowed := true, recurses := true, apart := false, narrowed := true }
def CodecUsesUptoSaid : Prop := codecUsesUptoRow.holds Try.pinned (OpenSpec.upto codecUsesSpec)

/-- 'drumlinlaw05.CodecSlots', WHERE WHAT IT READS IS OF BULK AT MOST 1048576: true; the input reads as it did. -/
def codecSlotsUptoRow : OpenClaim := { program := "ytlcbfpcabalgcaa", sum := "215bcfc6f2c8528c6d08e41f3157219457a3b42fc17f3edf562c8f5b53071ac0", func := "drumlin/drumlinlaw05.CodecSlots", spec := "codecSlots", unfollowed := true, recurses := true, apart := false, narrowed := true }
def CodecSlotsUptoSaid : Prop := codecSlotsUptoRow.holds Try.pinned (OpenSpec.upto codecSlotsSpec)

/-- 'drumlinlaw05.CodecRecords', WHERE WHAT IT READS IS OF BULK AT MOST 1048576: true; the input reads as it did. -/
def codecRecordsUptoRow : OpenClaim := { program := "ytlcbfpcabalgcaa", sum := "215bcfc6f2c8528c6d08e41f3157219457a3b42fc17f3edf562c8f5b53071ac0", func := "drumlin/drumlinlaw05.CodecRecords", spec := "codecRecords", unfollowed := true, recurses := true, apart := false, narrowed := true }
def CodecRecordsUptoSaid : Prop := codecRecordsUptoRow.holds Try.pinned (OpenSpec.upto codecRecordsSpec)

/-- 'drumlinlaw05.CodecSummaries', WHERE WHAT IT READS IS OF BULK AT MOST 1048576: true; the input reads as it did. -/
def codecSummariesUptoRow : OpenClaim := { program := "ytlcbfpcabalgcaa", sum := "215bcfc6f2c8528c6d08e41f3157219457a3b42fc17f3edf562c8f5b53071ac0", func := "drumlin/drumlinlaw05.CodecSummaries", spec := "codecSummaries", unfollowed := true, recurses := true, apart := false, narrowed := true }
def CodecSummariesUptoSaid : Prop := codecSummariesUptoRow.holds Try.pinned (OpenSpec.upto codecSummariesSpec)

end Rows
end Go.Proofs.Ytlcbfpcabalgcaa
