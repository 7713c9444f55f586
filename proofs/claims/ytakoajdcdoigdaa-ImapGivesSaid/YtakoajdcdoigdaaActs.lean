/-
  Opening the acts of a law of layer 10.
-/
import Derived.Test.YtakoajdcdoigdaaOpen
import Derived.Test.YtakoajdcdoigdaaLaw10c
namespace Go.Proofs.Ytakoajdcdoigdaa
open Go.RowKit Go.Maps Go.ChangeShapes Go.WideShapes
set_option linter.unusedVariables false
set_option linter.unusedSimpArgs false
section
variable {H : Type} {enc : TypeId × Value → H} {W : World} {base : Nat} {spare : Nat → Bool} {held : Bool}
theorem drop_done {α : Type} {l : List α} {n : Nat} (h : l.length = n) : l.drop n = [] := List.drop_eq_nil_of_le (by omega)
set_option maxRecDepth 10000 in
theorem good_slot : Good enc Try.prog W base spare held 29 (fun s : Sl => [.int .i64 s.at_, .int .u32 (s.ver : Int), .int .i64 s.links, .int .i64 s.kind]) (fun s => True) :=
  good_struct Try.underlying29 (fun n cs hl hf => by
    obtain ⟨⟨a, ha, _⟩, hf⟩ := struct_cons (o := 0) (k := 1) (by rfl) (by kernel_rfl) (good_int Try.underlying3) hf
    obtain ⟨⟨b, hb, wb⟩, hf⟩ := struct_cons (o := 1) (k := 1) (by rfl) (by kernel_rfl) (good_int Try.underlying27) hf
    obtain ⟨⟨c, hc, _⟩, hf⟩ := struct_cons (o := 2) (k := 1) (by rfl) (by kernel_rfl) (good_int Try.underlying3) hf
    obtain ⟨⟨d, hd, _⟩, hf⟩ := struct_cons (o := 3) (k := 1) (by rfl) (by kernel_rfl) (good_int Try.underlying3) hf
    have hlen : cs.length = 4 := hl.trans (by kernel_rfl)
    have hb0 : 0 ≤ b ∧ b ≤ 4294967295 := by simpa [Lit.wf, IntKind.min, IntKind.max, IntKind.signed, IntKind.bits] using wb
    rw [List.drop_zero] at ha
    rw [ha, hb, hc, hd, drop_done hlen]
    exact ⟨⟨a, b.toNat, c, d⟩, by simp; omega, trivial⟩)
set_option maxRecDepth 10000 in
theorem good_act : Good enc Try.prog W base spare held 31 acF (fun a => I64 a.num) :=
  good_struct Try.underlying31 (fun n cs hl hf => by
    obtain ⟨⟨a, ha, _⟩, hf⟩ := struct_cons (o := 0) (k := 1) (by rfl) (by kernel_rfl) (good_int Try.underlying3) hf
    obtain ⟨⟨b, hb, wb⟩, hf⟩ := struct_cons (o := 1) (k := 1) (by rfl) (by kernel_rfl) (good_int Try.underlying3) hf
    obtain ⟨⟨c, hc, _⟩, hf⟩ := struct_cons (o := 2) (k := 1) (by rfl) (by kernel_rfl) (good_int Try.underlying3) hf
    obtain ⟨⟨d, hd, _⟩, hf⟩ := struct_cons (o := 3) (k := 4) (by rfl) (by kernel_rfl) good_slot hf
    have hlen : cs.length = 7 := hl.trans (by kernel_rfl)
    have hb0 : -9223372036854775808 ≤ b ∧ b ≤ 9223372036854775807 := by simpa [Lit.wf, IntKind.min, IntKind.max, IntKind.signed, IntKind.bits] using wb
    rw [List.drop_zero] at ha
    rw [ha, hb, hc, hd, drop_done hlen]
    exact ⟨⟨a, b, c, d⟩, rfl, hb0⟩)
end
end Go.Proofs.Ytakoajdcdoigdaa
