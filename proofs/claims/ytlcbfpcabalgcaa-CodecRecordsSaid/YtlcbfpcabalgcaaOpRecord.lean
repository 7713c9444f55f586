/-
  A list of the reference's records that came in, opened.
-/
import Derived.Test.YtlcbfpcabalgcaaOpIno
import Derived.Test.YtlcbfpcabalgcaaCodLRecord
namespace Go.Proofs.Ytlcbfpcabalgcaa
open Go.ChangeShapes Go.WideShapes Go.ChangeAt Go.RowKit Go.Deep
set_option linter.unusedVariables false
set_option linter.unusedSimpArgs false
set_option linter.unnecessarySimpa false
set_option maxRecDepth 10000
section
variable {H : Type} {enc : TypeId × Value → H} {W : World} {base : Nat} {spare : Nat → Bool} {held : Bool}
theorem good_record : Good enc Try.prog W base spare held 90 Rcd.cells Rcd.Ok :=
  good_struct Try.underlying90 (fun n cs hl hf => by
    obtain ⟨⟨a0, h0, w0⟩, hf⟩ := struct_cons (o := 0) (k := 1) (by rfl) (by kernel_rfl) (good_int Try.underlying22) hf
    obtain ⟨⟨a1, h1, w1⟩, hf⟩ := struct_cons (o := 1) (k := 1) (by rfl) (by kernel_rfl) (good_int Try.underlying22) hf
    obtain ⟨⟨a2, h2, w2⟩, hf⟩ := struct_cons (o := 2) (k := 1) (by rfl) (by kernel_rfl) (good_int Try.underlying3) hf
    obtain ⟨⟨a3, h3, w3⟩, hf⟩ := struct_cons (o := 3) (k := 1) (by rfl) (by kernel_rfl) (good_int Try.underlying3) hf
    have hlen : cs.length = 4 := hl.trans (by kernel_rfl)
    obtain ⟨n0, rfl, l0⟩ := u32_of w0
    obtain ⟨n1, rfl, l1⟩ := u32_of w1
    rw [List.drop_zero] at h0
    rw [h0, h1, h2, h3, drop_end hlen]
    exact ⟨⟨n0, n1, a2, a3⟩, by simp [Rcd.cells], ⟨l0, l1, i64_of w2, i64_of w3⟩⟩)
end
end Go.Proofs.Ytlcbfpcabalgcaa
