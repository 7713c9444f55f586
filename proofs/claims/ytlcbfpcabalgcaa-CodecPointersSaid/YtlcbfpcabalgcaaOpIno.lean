/-
  An inode of the reference's that came in, opened.
-/
import Derived.Test.YtlcbfpcabalgcaaCodF
namespace Go.Proofs.Ytlcbfpcabalgcaa
open Go.ChangeShapes Go.WideShapes Go.ChangeAt Go.RowKit Go.Deep
set_option linter.unusedVariables false
set_option linter.unusedSimpArgs false
set_option linter.unnecessarySimpa false
set_option maxRecDepth 10000
theorem drop_end {l : List Value} {n : Nat} (h : l.length = n) : l.drop n = [] := by rw [← h]; exact List.drop_length
section
variable {H : Type} {enc : TypeId × Value → H} {W : World} {base : Nat} {spare : Nat → Bool} {held : Bool}
/-- An argument that is a struct. -/
theorem open_rowG {α : Type} {t : TypeId} {fs : Array Field} {f : α → List Value} {good : α → Prop} {v : Value} {d : DataW H} {ps : List MemPlace} {r : Reach} {b0 : Nat} (hu : Try.prog.underlying t = some (.struct fs))
    (he : Good enc Try.prog W base spare held t f good) (hv : Value.okWide Try.prog W r b0 t v) (h : DataW.Trod enc Try.prog W base spare held t v d ps) : ∃ a, v = .agg (f a).toArray ∧ good a := by
  have hagg : ∃ cs, v = .agg cs := by
    unfold Value.okWide at hv
    rw [hu] at hv
    obtain ⟨cs, h1, _⟩ := hv
    exact ⟨cs, h1⟩
  obtain ⟨cs, rfl⟩ := hagg
  obtain ⟨fuel, hf⟩ := h
  obtain ⟨a, ha, hg⟩ := he fuel _ _ hf
  have q2 : (Value.agg cs).cells.toList = cs.toList := rfl
  rw [q2] at ha
  exact ⟨a, by rw [← ha], hg⟩
theorem i64_of {b : Int} (wb : (Lit.int .i64 b).wf = true) : I64 b := by
  have : -9223372036854775808 ≤ b ∧ b ≤ 9223372036854775807 := by simpa [Lit.wf, IntKind.min, IntKind.max, IntKind.signed, IntKind.bits] using wb
  exact this
theorem u32_of {b : Int} (wb : (Lit.int .u32 b).wf = true) : ∃ n : Nat, b = (n : Int) ∧ n < 2 ^ 32 := by
  have : 0 ≤ b ∧ b ≤ 4294967295 := by simpa [Lit.wf, IntKind.min, IntKind.max, IntKind.signed, IntKind.bits] using wb
  exact ⟨b.toNat, by omega, by omega⟩
theorem u64_of {b : Int} (wb : (Lit.int .u64 b).wf = true) : ∃ n : Nat, b = (n : Int) ∧ n < 2 ^ 64 := by
  have : 0 ≤ b ∧ b ≤ 18446744073709551615 := by simpa [Lit.wf, IntKind.min, IntKind.max, IntKind.signed, IntKind.bits] using wb
  exact ⟨b.toNat, by omega, by omega⟩
theorem rowsOf_ints (L : List Int) : rowsOf (fun z : Int => [Value.int .i64 z]) L = L.map (Value.int .i64 ·) := by
  induction L with
  | nil => rfl
  | cons x r ih => rw [rowsOf_cons, ih]; rfl
theorem good_ino : Good enc Try.prog W base spare held 25 Ino.cells Ino.Ok :=
  good_struct Try.underlying25 (fun n cs hl hf => by
    obtain ⟨⟨a0, h0, w0⟩, hf⟩ := struct_cons (o := 0) (k := 1) (by rfl) (by kernel_rfl) (good_int Try.underlying22) hf
    obtain ⟨⟨a1, h1, w1⟩, hf⟩ := struct_cons (o := 1) (k := 1) (by rfl) (by kernel_rfl) (good_int Try.underlying22) hf
    obtain ⟨⟨a2, h2, w2⟩, hf⟩ := struct_cons (o := 2) (k := 1) (by rfl) (by kernel_rfl) (good_int Try.underlying3) hf
    obtain ⟨⟨a3, h3, w3⟩, hf⟩ := struct_cons (o := 3) (k := 1) (by rfl) (by kernel_rfl) (good_int Try.underlying3) hf
    obtain ⟨⟨a4, h4, w4⟩, hf⟩ := struct_cons (o := 4) (k := 1) (by rfl) (by kernel_rfl) (good_int Try.underlying22) hf
    obtain ⟨⟨a5, h5, w5, v5⟩, hf⟩ := struct_cons (o := 5) (k := 8) (by rfl) (by kernel_rfl) (good_array (n := 8) (k := 1) Try.underlying23 (by kernel_rfl) (by kernel_rfl) (good_int Try.underlying3)) hf
    obtain ⟨⟨a6, h6, w6⟩, hf⟩ := struct_cons (o := 13) (k := 1) (by rfl) (by kernel_rfl) (good_int Try.underlying3) hf
    obtain ⟨⟨a7, h7, w7⟩, hf⟩ := struct_cons (o := 14) (k := 1) (by rfl) (by kernel_rfl) (good_int Try.underlying3) hf
    have hlen : cs.length = 15 := hl.trans (by kernel_rfl)
    obtain ⟨n0, rfl, l0⟩ := u32_of w0
    obtain ⟨n1, rfl, l1⟩ := u32_of w1
    obtain ⟨n4, rfl, l4⟩ := u32_of w4
    rw [List.drop_zero] at h0
    rw [h0, h1, h2, h3, h4, h5, h6, h7, drop_end hlen, rowsOf_ints]
    exact ⟨⟨n0, n1, a2, a3, n4, a5, a6, a7⟩, by simp [Ino.cells, inoF], ⟨l0, l1, i64_of w2, i64_of w3, l4, w5, fun d hd => i64_of (v5 d hd), i64_of w6, i64_of w7⟩⟩)
end
end Go.Proofs.Ytlcbfpcabalgcaa
