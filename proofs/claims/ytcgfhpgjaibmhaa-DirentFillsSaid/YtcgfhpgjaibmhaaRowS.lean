/-
  A slice of strings that came in.
-/
import Derived.Test.YtcgfhpgjaibmhaaRow
import Derived.Deep.Strs
import Derived.Test.YtcgfhpgjaibmhaaDirO
namespace Go.Proofs.Ytcgfhpgjaibmhaa
open Go.ChangeShapes Go.WideShapes Go.ChangeAt Go.RowKit
set_option linter.unusedVariables false
section
variable {H : Type} {enc : TypeId × Value → H} {P : Program} {W : World} {base : Nat} {spare : Nat → Bool} {held : Bool}
theorem cell_addr {x : Addr} {v : Value} (h : W.cell? (x.add 0) = some v) : ∃ b o, x = ⟨b, o, none⟩ := by
  obtain ⟨b, o, sp⟩ := x
  cases sp with
  | none => exact ⟨b, o, rfl⟩
  | some s =>
    have e1 : (⟨b, o, some s⟩ : Addr).add 0 = ⟨b, o, some s⟩ := by simp [Addr.add]
    rw [e1] at h
    unfold World.cell? at h
    split at h <;> simp at h
theorem open_strings_arg {t e : TypeId} {v : Value} {d : DataW H} {ps : List MemPlace} {ts : List TypeId} {ds : List (DataW H)} {j : Nat} {r : Reach} {b0 : Nat}
    (hsz : (DataW.weightsEach P ts ds).all (· ≤ reachBytes) = true) (ht : ts[j]? = some t) (hd : ds[j]? = some d) (hu : P.underlying t = some (.slice e)) (he : P.underlying e = some .string) (hc : P.cellsOf e = 1) (hB : P.bytesOf e = 16)
    (hv : Value.okWide P W r b0 t v) (h : DataW.Trod enc P W base spare held t v d ps) :
    ∃ (A : Option Addr) (c : Nat) (L : List ByteArray), v = .slice A L.length c ∧ L.length ≤ 140737488351232 ∧ (∀ i, i < L.length → (L.getD i .empty).size ≤ 9223372036854775807) ∧ StrAt W A L := by
  obtain ⟨a, len, cap, rfl⟩ := okWide_slice hu hv
  obtain ⟨fuel, hf⟩ := h
  rcases Go.Deep.open_strs hu he hc hf with ⟨hcs, _⟩ | ⟨x, l, c, m, Sx, hcs, _, hl, hm, hmm, hx, hcell⟩
  · simp [Value.cells] at hcs
    obtain ⟨rfl, rfl, rfl⟩ := hcs
    exact ⟨none, 0, [], rfl, by simp, fun i hi => by simp at hi, fun h => absurd rfl h⟩
  · simp [Value.cells] at hcs
    obtain ⟨rfl, rfl, rfl⟩ := hcs
    obtain ⟨hx, _⟩ := Prod.mk.inj hx
    subst hx
    have hle : len ≤ m := by rw [hmm]; split <;> omega
    have hlen : len ≤ 140737488351232 := by
      have z := sized_slice hsz ht hd hu
      rw [hB] at z
      simp only [List.length_map, List.length_range] at z
      unfold reachBytes at z
      omega
    refine ⟨some x, cap, (List.range len).map Sx, by simp, by simpa using hlen, fun i hi => ?_, fun hne => ?_⟩
    · have hi' : i < len := by simpa using hi
      have := (hcell i (by omega)).2
      simp only [List.getD_eq_getElem?_getD, List.getElem?_map, List.getElem?_range hi', Option.map_some, Option.getD_some]
      exact this
    · have h0 : 0 < len := by
        cases len with
        | zero => simp at hne
        | succ n => omega
      obtain ⟨b, o, rfl⟩ := cell_addr (hcell 0 (by omega)).1
      refine ⟨b, o, rfl, fun i hi => ?_⟩
      have hi' : i < len := by simpa using hi
      have := (hcell i (by omega)).1
      rw [add_at] at this
      rw [this]
      simp [List.getElem?_range hi']
end
end Go.Proofs.Ytcgfhpgjaibmhaa
