/-
  Disk: acts opened.
-/
import Derived.Test.YtiehfaiadhhndaaDsPa
namespace Go.Proofs.Ytiehfaiadhhndaa
open Go.ChangeShapes Go.WideShapes Go.ChangeAt Go.RowKit Go.Deep
set_option linter.unusedVariables false
set_option linter.unusedSimpArgs false
section
variable {H : Type} {enc : TypeId × Value → H} {W : World} {base : Nat} {spare : Nat → Bool} {held : Bool}
theorem acV_len' (a : Ac) : (acV a).length = 4 := rfl
set_option maxRecDepth 10000 in
theorem good_act : Good enc Try.prog W base spare held 51 acV (AcOk W) :=
  good_struct Try.underlying51 (fun n cs hl hf => by
    obtain ⟨⟨a, ha, wa⟩, hf⟩ := struct_cons (o := 0) (k := 1) (by rfl) (by kernel_rfl) (good_int Try.underlying3) hf
    obtain ⟨⟨b, hb, wb⟩, hf⟩ := struct_cons (o := 1) (k := 1) (by rfl) (by kernel_rfl) (good_int Try.underlying3) hf
    obtain ⟨⟨q, hc, hq, hq0⟩, hf⟩ := struct_cons (o := 2) (k := 1) (by rfl) (by kernel_rfl) (good_slice_nil (k := 1) Try.underlying48 (by kernel_rfl) (by decide) (fun _ => rfl) good_u8) hf
    obtain ⟨⟨r, hd, hr⟩, hf⟩ := struct_cons (o := 3) (k := 1) (by rfl) (by kernel_rfl) (good_slice (k := 1) Try.underlying49 (by kernel_rfl) (by decide) (fun _ => rfl) (good_bool Try.underlying4)) hf
    have hlen : cs.length = 4 := hl.trans (by kernel_rfl)
    have hb0 : -9223372036854775808 ≤ b ∧ b ≤ 9223372036854775807 := by simpa [Lit.wf, IntKind.min, IntKind.max, IntKind.signed, IntKind.bits] using wb
    rw [List.drop_zero] at ha
    rw [ha, hb, hc, hd, drop_done hlen]
    have hby := byt_sli hq hq0
    have h1 := hq.1
    have h2 := hq.2.1
    have h3 := hr.1
    have h4 := hr.2.1
    exact ⟨⟨a, b, .slice q.A q.L.length q.c, q.L, r.A, r.c, r.L⟩, by simp [acV, sliF], ⟨hby, by show q.L.length ≤ _; unfold maxLen at h2; omega, hr.2.2.2, Nat.le_trans h3 h4, hb0⟩⟩)
end
end Go.Proofs.Ytiehfaiadhhndaa
