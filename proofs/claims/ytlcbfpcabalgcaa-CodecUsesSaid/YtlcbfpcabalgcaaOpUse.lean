/-
  A list of the reference's uses that came in, opened.
-/
import Derived.Test.YtlcbfpcabalgcaaOpIno
import Derived.Test.YtlcbfpcabalgcaaCodLUse
namespace Go.Proofs.Ytlcbfpcabalgcaa
open Go.ChangeShapes Go.WideShapes Go.ChangeAt Go.RowKit Go.Deep
set_option linter.unusedVariables false
set_option linter.unusedSimpArgs false
set_option linter.unnecessarySimpa false
set_option maxRecDepth 10000
section
variable {H : Type} {enc : TypeId × Value → H} {W : World} {base : Nat} {spare : Nat → Bool} {held : Bool}
theorem good_use : Good enc Try.prog W base spare held 66 Usr.cells Usr.Ok :=
  good_struct Try.underlying66 (fun n cs hl hf => by
    obtain ⟨⟨a0, h0, w0⟩, hf⟩ := struct_cons (o := 0) (k := 1) (by rfl) (by kernel_rfl) (good_int Try.underlying3) hf
    obtain ⟨⟨a1, h1, w1⟩, hf⟩ := struct_cons (o := 1) (k := 1) (by rfl) (by kernel_rfl) (good_int Try.underlying3) hf
    obtain ⟨⟨a2, h2, w2⟩, hf⟩ := struct_cons (o := 2) (k := 1) (by rfl) (by kernel_rfl) (good_int Try.underlying22) hf
    have hlen : cs.length = 3 := hl.trans (by kernel_rfl)
    obtain ⟨n2, rfl, l2⟩ := u32_of w2
    rw [List.drop_zero] at h0
    rw [h0, h1, h2, drop_end hlen]
    exact ⟨⟨a0, a1, n2⟩, by simp [Usr.cells], ⟨i64_of w0, i64_of w1, l2⟩⟩)
end
end Go.Proofs.Ytlcbfpcabalgcaa
