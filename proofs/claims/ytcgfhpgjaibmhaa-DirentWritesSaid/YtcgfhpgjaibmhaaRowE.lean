/-
  Four entries that came in, opened.
-/
import Derived.Test.YtcgfhpgjaibmhaaRow
namespace Go.Proofs.Ytcgfhpgjaibmhaa
open Go.ChangeShapes Go.WideShapes Go.ChangeAt Go.RowKit Go.Deep
set_option linter.unusedVariables false
theorem list8 {α : Type} {l : List α} (h : l.length = 8) : ∃ a b c d e f g i, l = [a, b, c, d, e, f, g, i] := by
  match l, h with
  | [a, b, c, d, e, f, g, i], _ => exact ⟨a, b, c, d, e, f, g, i, rfl⟩
section
variable {H : Type} {enc : TypeId × Value → H} {P : Program} {W : World} {base : Nat} {spare : Nat → Bool} {held : Bool}
theorem open_ents {t e : TypeId} {f0 f1 : Field} {v : Value} {d : DataW H} {ps : List MemPlace} {r : Reach} {b0 : Nat}
    (hu : P.underlying t = some (.array 4 e)) (hs : P.underlying e = some (.struct #[f0, f1])) (h0 : P.underlying f0.type = some (.int .i64)) (h1 : P.underlying f1.type = some .string)
    (o0 : f0.offset = 0) (o1 : f1.offset = 1) (k0 : P.cellsOf f0.type = 1) (k1 : P.cellsOf f1.type = 1) (hc : P.cellsOf e = 2) (hn : P.cellsOf t = 8)
    (hv : Value.okWide P W r b0 t v) (h : DataW.Trod enc P W base spare held t v d ps) :
    ∃ (n0 n1 n2 n3 : Int) (s0 s1 s2 s3 : ByteArray), v = .agg #[.int .i64 n0, .string s0, .int .i64 n1, .string s1, .int .i64 n2, .string s2, .int .i64 n3, .string s3] := by
  have hagg : ∃ cs, v = .agg cs ∧ cs.size = 8 := by
    unfold Value.okWide at hv
    rw [hu] at hv
    obtain ⟨cs, h1, h2, _⟩ := hv
    exact ⟨cs, h1, by rw [h2, hn]⟩
  obtain ⟨cs, rfl, hcs⟩ := hagg
  obtain ⟨a0, a1, a2, a3, a4, a5, a6, a7, hl8⟩ := list8 (l := cs.toList) (by simpa using hcs)
  obtain ⟨fuel, hf⟩ := h
  obtain ⟨xs, m, _, _, hl, hxl, hg⟩ := DataW.trod_array hu hf
  have each : ∀ i, i < 4 → ∀ x y, ((cs.toList.drop (i * 2)).take 2) = [x, y] → (∃ n, x = Value.int .i64 n) ∧ ∃ s, y = Value.string s := fun i hi x y hxy => by
    have q := hg i hi
    rw [hc] at q
    have q2 : (Value.agg cs).cells.toList = cs.toList := rfl
    rw [q2, hxy, List.getElem?_eq_getElem (by omega)] at q
    obtain ⟨y0, y1, n, hx, _, g0, g1⟩ := trod_struct2 hs q
    rw [o0, k0] at g0
    rw [o1, k1] at g1
    obtain ⟨z, hz, _⟩ := DataW.trod_int h0 g0
    obtain ⟨s, hs', _⟩ := DataW.trod_string h1 g1
    simp at hz hs'
    exact ⟨⟨z, hz⟩, s, hs'⟩
  obtain ⟨⟨n0, rfl⟩, s0, rfl⟩ := each 0 (by decide) a0 a1 (by rw [hl8]; rfl)
  obtain ⟨⟨n1, rfl⟩, s1, rfl⟩ := each 1 (by decide) a2 a3 (by rw [hl8]; rfl)
  obtain ⟨⟨n2, rfl⟩, s2, rfl⟩ := each 2 (by decide) a4 a5 (by rw [hl8]; rfl)
  obtain ⟨⟨n3, rfl⟩, s3, rfl⟩ := each 3 (by decide) a6 a7 (by rw [hl8]; rfl)
  refine ⟨n0, n1, n2, n3, s0, s1, s2, s3, ?_⟩
  congr 1
  apply Array.toList_inj.1
  rw [hl8]
end
end Go.Proofs.Ytcgfhpgjaibmhaa
