/-
  Opening: slices inside structs.
-/
import Derived.Test.YtiehfaiadhhndaaOpen
namespace Go.Proofs.Ytiehfaiadhhndaa
open Go.ChangeShapes Go.WideShapes Go.ChangeAt Go.RowKit Go.Deep
set_option linter.unusedVariables false
set_option linter.unusedSimpArgs false
section
variable {H : Type} {enc : TypeId × Value → H} {P : Program} {W : World} {base : Nat} {spare : Nat → Bool} {held : Bool}
variable {α β : Type}
theorem good_slice_nil {t e : TypeId} {f : α → List Value} {good : α → Prop} {k : Nat} (hu : P.underlying t = some (.slice e)) (hc : P.cellsOf e = k) (hk0 : 0 < k) (hk : ∀ x, (f x).length = k) (he : Good enc P W base spare held e f good) :
    Good enc P W base spare held t sliF (fun q => SliGood W f k good q ∧ (q.A = none → q.c = 0)) := fun n cs x hx => by
  rcases open_slice hu hx with ⟨rfl, _⟩ | ⟨a, len, cap, m, n', D, Pl, rfl, hb, hl, hm, hmm, hxx, hel⟩
  · exact ⟨⟨none, 0, []⟩, rfl, ⟨Nat.le_refl _, by simp [maxLen], fun a h => by simp at h, fun h => absurd rfl h⟩, fun _ => rfl⟩
  · have hlm : len ≤ m := by rw [hmm]; split <;> omega
    have each : ∀ i, i < len → ∃ x : α, W.cells? base (a.add (i * k)) k = some (f x) ∧ good x := fun i hi => by
      obtain ⟨cs', h1, h2⟩ := hel i (by omega)
      obtain ⟨x, rfl, hg⟩ := he _ _ _ h2
      rw [hc] at h1
      exact ⟨x, h1, hg⟩
    by_cases h0 : len = 0
    · subst h0
      exact ⟨⟨some a, cap, []⟩, rfl, ⟨hl, hm, fun a h => by simp at h, fun h => absurd rfl h⟩, fun h => by cases h⟩
    · haveI : Inhabited α := ⟨(each 0 (by omega)).choose⟩
      obtain ⟨X, hX⟩ := choose_lt each
      have hc0 : W.cell? (a.add 0) = (f (X 0))[0]? := by
        have := (World.cells?_some (hX 0 (by omega)).1).2.2 0 hk0
        rw [Nat.zero_mul, add_add] at this
        exact this
      rw [List.getElem?_eq_getElem (by rw [hk]; exact hk0)] at hc0
      obtain ⟨b, o, rfl⟩ := addr_plain hc0
      refine ⟨⟨some ⟨b, o, none⟩, cap, (List.range len).map X⟩, by simp [sliF], ⟨by simpa using hl, hm, fun y hy => ?_, fun _ => ⟨b, o, rfl, fun i y hy j hj => ?_⟩⟩, fun h => by cases h⟩
      · obtain ⟨i, hi, rfl⟩ := List.mem_map.1 hy
        exact (hX i (by simpa using hi)).2
      · have hi : i < len := by have := (List.getElem?_eq_some_iff.1 hy).1; simpa using this
        have hyx : X i = y := by simpa [List.getElem?_range hi] using hy
        subst hyx
        have := (World.cells?_some (hX i hi).1).2.2 j hj
        rw [add_add, add_at] at this
        rw [← this, Nat.add_assoc]
end
section
variable {H : Type} {enc : TypeId × Value → H} {W : World} {base : Nat} {spare : Nat → Bool} {held : Bool}
theorem drop_done {α : Type} {l : List α} {n : Nat} (h : l.length = n) : l.drop n = [] := List.drop_eq_nil_of_le (by omega)
theorem good_u8 : Good enc Try.prog W base spare held 5 (fun u : UInt8 => [bval u]) (fun _ => True) :=
  Good.map (good_int Try.underlying5) (fun a ha => by
    have h : 0 ≤ a ∧ a ≤ 255 := by simpa [Lit.wf, IntKind.min, IntKind.max, IntKind.signed, IntKind.bits] using ha
    refine ⟨UInt8.ofNat a.toNat, ?_, trivial⟩
    unfold bval
    have e : ((UInt8.ofNat a.toNat).toNat : Int) = a := by rw [UInt8.toNat_ofNat']; omega
    rw [e])
theorem byt_sli {q : Sli UInt8} (h : SliGood W (fun u : UInt8 => [bval u]) 1 (fun _ => True) q) (h0 : q.A = none → q.c = 0) : Byt W (.slice q.A q.L.length q.c) q.L := by
  obtain ⟨h1, h2, _, h4⟩ := h
  by_cases hl : q.L = []
  · exact .inl ⟨hl, q.A, q.c, by rw [hl]; rfl, h2, h0⟩
  · obtain ⟨b, o, e1, e2⟩ := h4 hl
    refine .inr ⟨b, o, q.c, by rw [e1], h1, h2, fun i hi => ?_⟩
    have := e2 i q.L[i] (List.getElem?_eq_getElem hi) 0 (by decide)
    rw [Nat.mul_one, Nat.add_zero] at this
    rw [this]
    simp [bval, List.getD_eq_getElem?_getD, List.getElem?_eq_getElem hi]
end
end Go.Proofs.Ytiehfaiadhhndaa
