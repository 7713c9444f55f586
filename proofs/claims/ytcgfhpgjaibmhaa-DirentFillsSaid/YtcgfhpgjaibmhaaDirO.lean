/-
  Entries that fill a block one behind the other, plain.
-/
import Derived.Test.YtcgfhpgjaibmhaaDirK
import Derived.Test.YtcgfhpgjaibmhaaDirG
namespace Go.Proofs.Ytcgfhpgjaibmhaa
open Go.RowKit
set_option linter.unusedVariables false
set_option linter.unusedSimpArgs false
def okE (e : Ent) : Prop := 1 ≤ e.1 ∧ e.1 ≤ 12 ∧ goodE e.2.data.toList = 0
def zE : Ent := (0, ⟨#[]⟩)
def FillAt (E : List Ent) (n : Nat) : Prop := ∀ j, j < 4 → (j < n → okE (eAt E j)) ∧ (n ≤ j → eAt E j = zE)
theorem okE_ne {e : Ent} (h : okE e) : (e.1 == 0) = false := by
  have := h.1
  rw [beq_eq_false_iff_ne]; omega
theorem okE_ok {e : Ent} (h : okE e) : entOk e = true := by
  obtain ⟨h1, h2, h3⟩ := h
  unfold entOk mayE
  rw [if_neg (by omega)]
  exact decide_eq_true ⟨by omega, by omega, h3⟩
theorem zE_ok : entOk zE = true := by decide
theorem ff_four (pr : Ent → Bool) (E : List Ent) : ff pr E 4 = if pr (eAt E 0) then 0 else if pr (eAt E 1) then 1 else if pr (eAt E 2) then 2 else if pr (eAt E 3) then 3 else -1 := rfl
theorem cA_four (E : List Ent) : cA E 4 = wgt E 0 + wgt E 1 + wgt E 2 + wgt E 3 := by
  show 0 + wgt E 0 + wgt E 1 + wgt E 2 + wgt E 3 = _
  omega
theorem fill_bit {E : List Ent} {n : Nat} (h : FillAt E n) (j : Nat) (hj : j < 4) : ((eAt E j).1 == 0) = decide (n ≤ j) := by
  by_cases hn : n ≤ j
  · rw [(h j hj).2 hn, decide_eq_true hn]; rfl
  · rw [okE_ne ((h j hj).1 (by omega)), decide_eq_false hn]
theorem fill_room {E : List Ent} {n : Nat} (h : FillAt E n) (hn : n ≤ 4) : ff prRoom E 4 = if n < 4 then (n : Int) else -1 := by
  rw [ff_four]
  unfold prRoom
  rw [fill_bit h 0 (by omega), fill_bit h 1 (by omega), fill_bit h 2 (by omega), fill_bit h 3 (by omega)]
  have : n = 0 ∨ n = 1 ∨ n = 2 ∨ n = 3 ∨ n = 4 := by omega
  rcases this with rfl | rfl | rfl | rfl | rfl <;> rfl
theorem fill_count {E : List Ent} {n : Nat} (h : FillAt E n) (hn : n ≤ 4) : cA E 4 = n := by
  rw [cA_four]
  unfold wgt
  rw [fill_bit h 0 (by omega), fill_bit h 1 (by omega), fill_bit h 2 (by omega), fill_bit h 3 (by omega)]
  have : n = 0 ∨ n = 1 ∨ n = 2 ∨ n = 3 ∨ n = 4 := by omega
  rcases this with rfl | rfl | rfl | rfl | rfl <;> rfl
theorem fill_ok {E : List Ent} {n : Nat} (h : FillAt E n) : entsOk E = true := entsOk_all fun i hi => by
  by_cases hn : n ≤ i
  · rw [(h i hi).2 hn]; exact zE_ok
  · exact okE_ok ((h i hi).1 (by omega))
theorem prFind_iff (s : ByteArray) (e : Ent) : prFind s e = true ↔ (e.1 == 0) = false ∧ e.2 = s := by
  unfold prFind
  constructor
  · intro h
    simp only [Bool.and_eq_true, Bool.not_eq_true', beq_iff_eq] at h
    refine ⟨h.1, ?_⟩
    have h2 := h.2
    rw [ByteArray.toList_eq, ByteArray.toList_eq] at h2
    cases hx : e.2
    cases hs : s
    rw [hx, hs] at h2
    simpa using h2
  · rintro ⟨h, rfl⟩
    simp [h]
theorem fill_find {E : List Ent} {n : Nat} (h : FillAt E (n + 1)) (hn : n < 4) (s : ByteArray) (hs : (eAt E n).2 = s) : ∃ k, k ≤ n ∧ ff (prFind s) E 4 = ((k : Nat) : Int) ∧ (eAt E k).2 = s := by
  have hp : prFind s (eAt E n) = true := (prFind_iff s _).2 ⟨okE_ne ((h n hn).1 (by omega)), hs⟩
  rw [ff_four]
  cases h0 : prFind s (eAt E 0) with
  | true => exact ⟨0, by omega, rfl, ((prFind_iff s _).1 h0).2⟩
  | false =>
    have n0 : n ≠ 0 := fun e => by rw [e, h0] at hp; cases hp
    cases h1 : prFind s (eAt E 1) with
    | true => exact ⟨1, by omega, rfl, ((prFind_iff s _).1 h1).2⟩
    | false =>
      have n1 : n ≠ 1 := fun e => by rw [e, h1] at hp; cases hp
      cases h2 : prFind s (eAt E 2) with
      | true => exact ⟨2, by omega, rfl, ((prFind_iff s _).1 h2).2⟩
      | false =>
        have n2 : n ≠ 2 := fun e => by rw [e, h2] at hp; cases hp
        have : n = 3 := by omega
        subst this
        rw [hp]
        exact ⟨3, by omega, rfl, hs⟩
theorem fill_zero : FillAt (entsL 0 0 0 0 ⟨#[]⟩ ⟨#[]⟩ ⟨#[]⟩ ⟨#[]⟩) 0 := fun j hj => ⟨fun h => by omega, fun _ => by
  have : j = 0 ∨ j = 1 ∨ j = 2 ∨ j = 3 := by omega
  rcases this with rfl | rfl | rfl | rfl <;> rfl⟩
theorem fill_set {E E' : List Ent} {n : Nat} (h : FillAt E n) (hok : okE (eAt E' n)) (he : ∀ j, j < 4 → j ≠ n → eAt E' j = eAt E j) : FillAt E' (n + 1) := fun j hj => by
  by_cases hn : j = n
  · subst hn; exact ⟨fun _ => hok, fun h => by omega⟩
  · rw [he j hj hn]; exact ⟨fun hh => (h j hj).1 (by omega), fun hh => (h j hj).2 (by omega)⟩
/-- What a filled block writes is read back. -/
theorem fill_back (n0 n1 n2 n3 : Int) (s0 s1 s2 s3 : ByteArray) (n : Nat) (h : FillAt (entsL n0 n1 n2 n3 s0 s1 s2 s3) n) :
    dwE (entsL n0 n1 n2 n3 s0 s1 s2 s3) = 0 ∧ drE (dwS (entsL n0 n1 n2 n3 s0 s1 s2 s3)) = 0 ∧ drV (dwS (entsL n0 n1 n2 n3 s0 s1 s2 s3)) = entsV (n0, s0) (n1, s1) (n2, s2) (n3, s3) ∧ (dwS (entsL n0 n1 n2 n3 s0 s1 s2 s3)).length = 128 := by
  have hok := fill_ok h
  obtain ⟨b1, b2⟩ := write_back n0 n1 n2 n3 s0 s1 s2 s3 hok
  have hs : dwS (entsL n0 n1 n2 n3 s0 s1 s2 s3) = entsB (entsL n0 n1 n2 n3 s0 s1 s2 s3) 4 := by unfold dwS; rw [if_pos hok]
  refine ⟨by unfold dwE; rw [if_pos hok], ?_, ?_, by rw [hs]; exact dw_len _ hok⟩
  · rw [hs]; unfold drE; rw [b1]; rfl
  · rw [hs]; exact b2
/-- Strings that can be read. -/
def StrAt (w : World) (A : Option Addr) (L : List ByteArray) : Prop := L ≠ [] → ∃ b o, A = some ⟨b, o, none⟩ ∧ ∀ i, i < L.length → w.cell? ⟨b, o + i, none⟩ = some (.string (L.getD i .empty))
theorem StrAt.below {w w' : World} {A : Option Addr} {L : List ByteArray} (h : StrAt w A L) (hb : Below w.heap.size w w') : StrAt w' A L := fun hl => by
  obtain ⟨b, o, h1, h2⟩ := h hl
  exact ⟨b, o, h1, fun i hi => by rw [hb.cell (World.block_lt_of_cell? w _ (h2 i hi))]; exact h2 i hi⟩
end Go.Proofs.Ytcgfhpgjaibmhaa
