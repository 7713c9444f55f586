/-
  Codec: small lemmas for lists.
-/
import Derived.Test.YtlcbfpcabalgcaaCodG
import Derived.Test.YtlcbfpcabalgcaaCom
namespace Go.Proofs.Ytlcbfpcabalgcaa
open Go.RowKit
set_option linter.unusedVariables false
theorem set_same (cs : Array Value) (i : Nat) (v : Value) (h : cs[i]? = some v) : cs.setIfInBounds i v = cs := by
  obtain ⟨hi, e⟩ := Array.getElem?_eq_some_iff.1 h
  rw [Array.setIfInBounds, dif_pos hi]
  apply Array.ext (by simp)
  intro j h1 h2
  rw [Array.getElem_set]
  split
  · rename_i e2; subst e2; exact e.symm
  · rfl
theorem set_at (cs : Array Value) (i : Nat) (u v : Value) (h : cs[i]? = some u) : (cs.setIfInBounds i v)[i]? = some v := by
  obtain ⟨hi, e⟩ := Array.getElem?_eq_some_iff.1 h
  rw [Array.getElem?_setIfInBounds, if_pos rfl, if_pos hi]
theorem set_set2 (cs : Array Value) (i : Nat) (u v : Value) : (cs.setIfInBounds i u).setIfInBounds i v = cs.setIfInBounds i v := by
  apply Array.ext_getElem?
  intro j
  rw [Array.getElem?_setIfInBounds, Array.getElem?_setIfInBounds, Array.getElem?_setIfInBounds]
  by_cases h : i = j
  · simp [h]
  · simp [h]
theorem byt_old {w : World} {v : Value} {l : List UInt8} (h : Byt w v l) : Apart (fun b => w.heap.size ≤ b) v l := fun hne b o n c e f => by
  rcases h with ⟨h, _⟩ | ⟨b', o', c', h1, h2, h3, h4⟩
  · exact hne h
  · rw [e] at h1
    cases h1
    have := h4.lt (List.length_pos_iff.2 hne)
    dsimp only at f
    omega
theorem keepF {w w' : World} {n pb : Nat} (h : Below n w w') : Keep (fun b => b = pb ∨ n ≤ b) w w' := ⟨h.os, h.tape, h.output, h.size, fun k hk hF => h.block k (by
  rcases Nat.lt_or_ge k n with h1 | h1
  · exact h1
  · exact absurd (.inr h1) hF)⟩
theorem own_nilk (w : World) (base e k : Nat) : w.ownsRow base e k (.slice none 0 0) 0 [] := ⟨by simp, .inl ⟨rfl, rfl⟩⟩
end Go.Proofs.Ytlcbfpcabalgcaa
