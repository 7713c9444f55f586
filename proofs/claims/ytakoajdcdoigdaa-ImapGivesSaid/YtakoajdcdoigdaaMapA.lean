/-
  The inode map in memory; its functions, one by one.
-/
import Derived.Test.YtakoajdcdoigdaaMem
import Derived.IntWalk
import Derived.StillTailTactics
namespace Go.Proofs.Ytakoajdcdoigdaa
open Go.RowKit
set_option linter.unusedVariables false
set_option linter.unusedSimpArgs false
structure Sl where
  at_ : Int
  ver : Nat
  links : Int
  kind : Int
deriving DecidableEq
def slF (s : Sl) : List Value := [.int .i64 s.at_, .int .u32 (s.ver : Int), .int .i64 s.links, .int .i64 s.kind]
theorem slF_len (s : Sl) : (slF s).length = 4 := rfl
theorem slF_one (s : Sl) : ∀ u ∈ slF s, u.oneCell' = true := by
  intro u hu
  simp only [slF, List.mem_cons, List.not_mem_nil, or_false] at hu
  rcases hu with rfl | rfl | rfl | rfl <;> rfl
def slV (s : Sl) : Value := .agg #[.int .i64 s.at_, .int .u32 (s.ver : Int), .int .i64 s.links, .int .i64 s.kind]
def sl0 : Sl := ⟨0, 0, 0, 0⟩
/-- A map behind a pointer: its struct lies in block p, its slots in block g. -/
def MapAt (w : World) (p g c : Nat) (L : List Sl) : Prop :=
  p ≠ g ∧ w.heap[p]? = some (.cells #[.slice (some ⟨g, 0, none⟩) L.length c] 62 (0, 0)) ∧ ArrAt w g 42 slF 4 L c
theorem MapAt.lt {w : World} {p g c : Nat} {L : List Sl} (h : MapAt w p g c L) : p < w.heap.size ∧ g < w.heap.size := ⟨(Array.getElem?_eq_some_iff.1 h.2.1).1, RawAt.lt h.2.2⟩
theorem MapAt.keep {F : Nat → Prop} {w w' : World} {p g c : Nat} {L : List Sl} (h : MapAt w p g c L) (hk : Keep F w w') (hp : ¬ F p) (hg : ¬ F g) : MapAt w' p g c L :=
  ⟨h.1, hk.heap h.2.1 hp, RawAt.keep h.2.2 hk hg⟩
theorem MapAt.below {w w' : World} {p g c : Nat} {L : List Sl} (h : MapAt w p g c L) (hb : Below w.heap.size w w') : MapAt w' p g c L :=
  ⟨h.1, old_heap h.2.1 hb, RawAt.below h.2.2 hb⟩
theorem MapAt.head {w : World} {p g c : Nat} {L : List Sl} (h : MapAt w p g c L) : w.cell? ⟨p, 0, none⟩ = some (.slice (some ⟨g, 0, none⟩) L.length c) := cell_row h.2.1 0
theorem MapAt.le {w : World} {p g c : Nat} {L : List Sl} (h : MapAt w p g c L) : L.length ≤ c ∧ c ≤ maxLen := by obtain ⟨cur, _, _, h3, h4, _⟩ := h.2.2; exact ⟨h3, h4⟩
/-- The cells of one slot. -/
def SlAt (w : World) (g i : Nat) (s : Sl) : Prop := w.cell? ⟨g, i * 4, none⟩ = some (.int .i64 s.at_) ∧ w.cell? ⟨g, i * 4 + 1, none⟩ = some (.int .u32 (s.ver : Int)) ∧ w.cell? ⟨g, i * 4 + 2, none⟩ = some (.int .i64 s.links) ∧ w.cell? ⟨g, i * 4 + 3, none⟩ = some (.int .i64 s.kind)
theorem MapAt.slot {w : World} {p g c : Nat} {L : List Sl} (h : MapAt w p g c L) (i : Nat) (s : Sl) (hi : L[i]? = some s) : SlAt w g i s :=
  ⟨ArrAt.cell slF_len h.2.2 i 0 s hi (by decide), ArrAt.cell slF_len h.2.2 i 1 s hi (by decide), ArrAt.cell slF_len h.2.2 i 2 s hi (by decide), ArrAt.cell slF_len h.2.2 i 3 s hi (by decide)⟩
/-- A slot is written anew. -/
theorem MapAt.store {w : World} {p g c : Nat} {L : List Sl} (h : MapAt w p g c L) (i : Nat) (x : Sl) (hi : i < L.length) :
    MapAt ((((w.setCell ⟨g, i * 4, none⟩ (.int .i64 x.at_)).setCell ⟨g, i * 4 + 1, none⟩ (.int .u32 (x.ver : Int))).setCell ⟨g, i * 4 + 2, none⟩ (.int .i64 x.links)).setCell ⟨g, i * 4 + 3, none⟩ (.int .i64 x.kind)) p g c (L.set i x) := by
  have hr := (((RawAt.set h.2.2 (i * 4) (.int .i64 x.at_)).set (i * 4 + 1) (.int .u32 (x.ver : Int))).set (i * 4 + 2) (.int .i64 x.links)).set (i * 4 + 3) (.int .i64 x.kind)
  have hk := (((((Keep.refl (· = g) w).setCell g (i * 4) (.int .i64 x.at_) rfl).setCell g (i * 4 + 1) (.int .u32 (x.ver : Int)) rfl).setCell g (i * 4 + 2) (.int .i64 x.links) rfl).setCell g (i * 4 + 3) (.int .i64 x.kind) rfl)
  refine ⟨h.1, ?_, ArrAt.of_raw hr (by simp) (rowsOf_setAt slF_len L i x hi)⟩
  rw [List.length_set]
  exact hk.heap h.2.1 h.1
theorem MapAt.store_links {w : World} {p g c : Nat} {L : List Sl} (h : MapAt w p g c L) (i : Nat) (s : Sl) (n : Int) (hi : L[i]? = some s) :
    MapAt (w.setCell ⟨g, i * 4 + 2, none⟩ (.int .i64 n)) p g c (L.set i { s with links := n }) := by
  have hlt : i < L.length := (List.getElem?_eq_some_iff.1 hi).1
  refine ⟨h.1, ?_, ArrAt.of_raw (RawAt.set h.2.2 (i * 4 + 2) (.int .i64 n)) (by simp) ?_⟩
  · rw [List.length_set]
    exact ((Keep.refl (· = g) w).setCell g (i * 4 + 2) (.int .i64 n) rfl).heap h.2.1 h.1
  · rw [← rowsOf_setAt slF_len L i { s with links := n } hlt]
    have hg : ∀ j, j < 4 → (rowsOf slF L)[i * 4 + j]? = (slF s)[j]? := fun j hj => rowsOf_get slF_len L i j s hi hj
    have e0 := hg 0 (by decide)
    have e1 := hg 1 (by decide)
    have e3 := hg 3 (by decide)
    show _ = ((((rowsOf slF L).set (i * 4) (.int .i64 s.at_)).set (i * 4 + 1) (.int .u32 (s.ver : Int))).set (i * 4 + 2) (.int .i64 n)).set (i * 4 + 3) (.int .i64 s.kind)
    apply List.ext_getElem?
    intro q
    simp only [List.getElem?_set, List.length_set]
    have hl : (rowsOf slF L).length = L.length * 4 := rowsOf_len slF_len L
    by_cases q3 : i * 4 + 3 = q
    · subst q3; rw [if_neg (by omega), if_pos rfl, if_pos (by omega), e3]; rfl
    · rw [if_neg q3]
      by_cases q2 : i * 4 + 2 = q
      · subst q2; rw [if_pos rfl, if_pos rfl]
      · rw [if_neg q2, if_neg q2]
        by_cases q1 : i * 4 + 1 = q
        · subst q1; rw [if_pos rfl, if_pos (by omega), e1]; rfl
        · rw [if_neg q1]
          by_cases q0 : i * 4 = q
          · subst q0; rw [if_pos rfl, if_pos (by omega)]; exact e0
          · rw [if_neg q0]
/-! ### The functions over lists -/
def mFree (L : List Sl) : Option Nat := L.findIdx? (fun s => s.kind == 0)
theorem mFree_some {L : List Sl} {i : Nat} (h : mFree L = some i) : ∃ s, L[i]? = some s ∧ s.kind = 0 ∧ ∀ j, j < i → ∀ x, L[j]? = some x → x.kind ≠ 0 := by
  unfold mFree at h
  obtain ⟨hi, hp, hn⟩ := List.findIdx?_eq_some_iff_getElem.1 h
  refine ⟨L[i], List.getElem?_eq_getElem hi, by simpa using hp, fun j hj x hx => ?_⟩
  have := hn j hj
  rw [List.getElem?_eq_getElem (by omega)] at hx
  cases hx
  simpa using this
theorem mFree_none {L : List Sl} (h : mFree L = none) : ∀ x ∈ L, x.kind ≠ 0 := by
  unfold mFree at h
  intro x hx
  simpa using (List.findIdx?_eq_none_iff.1 h) x hx
end Go.Proofs.Ytakoajdcdoigdaa
