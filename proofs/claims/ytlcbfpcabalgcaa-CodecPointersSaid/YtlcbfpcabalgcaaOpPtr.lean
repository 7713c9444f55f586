/-
  An array of 32 numbers that came in, opened.
-/
import Derived.Test.YtlcbfpcabalgcaaOpIno
import Derived.Test.YtlcbfpcabalgcaaCodPt
namespace Go.Proofs.Ytlcbfpcabalgcaa
open Go.ChangeShapes Go.WideShapes Go.ChangeAt Go.RowKit Go.Deep
set_option linter.unusedVariables false
set_option linter.unusedSimpArgs false
set_option maxRecDepth 10000
section
variable {H : Type} {enc : TypeId × Value → H} {W : World} {base : Nat} {spare : Nat → Bool} {held : Bool}
theorem open_ptr {v : Value} {d : DataW H} {ps : List MemPlace} {r : Reach} {b0 : Nat} (hv : Value.okWide Try.prog W r b0 54 v) (h : DataW.Trod enc Try.prog W base spare held 54 v d ps) : ∃ z : List Int, v = .agg (ints z).toArray ∧ z.length = 32 ∧ ∀ n ∈ z, I64 n := by
  have hagg : ∃ cs, v = .agg cs := by
    unfold Value.okWide at hv
    rw [Try.underlying54] at hv
    obtain ⟨cs, h1, _⟩ := hv
    exact ⟨cs, h1⟩
  obtain ⟨cs, rfl⟩ := hagg
  obtain ⟨fuel, hf⟩ := h
  obtain ⟨a, ha, hl, hg⟩ := (good_array (n := 32) (k := 1) Try.underlying54 (by kernel_rfl) (by kernel_rfl) (good_int Try.underlying3)) fuel _ _ hf
  have q2 : (Value.agg cs).cells.toList = cs.toList := rfl
  rw [q2, rowsOf_ints] at ha
  refine ⟨a, ?_, hl, fun n hn => i64_of (hg n hn)⟩
  have hc : cs = (ints a).toArray := by rw [ints, ← ha]
  rw [hc]
end
end Go.Proofs.Ytlcbfpcabalgcaa
