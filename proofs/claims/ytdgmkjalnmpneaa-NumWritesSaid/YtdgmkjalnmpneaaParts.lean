/-
  NumWrites: parts, plain.
-/
import Derived.Test.YtdgmkjalnmpneaaReader
import Derived.Test.YtdgmkjalnmpneaaWriterB
import Derived.Test.YtdgmkjalnmpneaaFull
import Derived.Test.YtdgmkjalnmpneaaMem
import Derived.Test.YtdgmkjalnmpneaaOpen
namespace Go.Proofs.Ytdgmkjalnmpneaa
open Go.RowKit
set_option linter.unusedVariables false
set_option linter.unusedSimpArgs false
/-- A part. -/
structure Pt where
  width : Int
  num : Nat
  raw : Bool
  A : Option Addr
  c : Nat
  bs : List UInt8
def ptV (p : Pt) : Value := .slice p.A p.bs.length p.c
def ptF (p : Pt) : List Value := [.int .i64 p.width, .int .u64 (p.num : Int), .bool p.raw, ptV p]
theorem ptF_len (p : Pt) : (ptF p).length = 4 := rfl
theorem ptF_one (p : Pt) : ∀ u ∈ ptF p, u.oneCell' = true := by
  intro u hu
  simp [ptF, ptV] at hu
  rcases hu with rfl | rfl | rfl | rfl <;> rfl
def PtOk (w : World) (p : Pt) : Prop := -9223372036854775808 ≤ p.width ∧ p.width ≤ 9223372036854775807 ∧ p.num < 2 ^ 64 ∧ p.bs.length ≤ 9223372036854775807 ∧ Byt w (ptV p) p.bs
theorem PtOk.below {w w' : World} {p : Pt} (h : PtOk w p) (hb : Below w.heap.size w w') : PtOk w' p := ⟨h.1, h.2.1, h.2.2.1, h.2.2.2.1, h.2.2.2.2.below hb⟩
def cutP (p : Pt) : Pt := if 200 < p.bs.length then { p with bs := p.bs.take 200 } else p
def fewL (L : List Pt) (j : Nat) : List Pt := (L.take j).map cutP
theorem fewL_len (L : List Pt) (j : Nat) (h : j ≤ L.length) : (fewL L j).length = j := by simp [fewL]; omega
theorem fewL_succ {L : List Pt} {j : Nat} {x : Pt} (h : L[j]? = some x) : fewL L (j + 1) = fewL L j ++ [cutP x] := by
  have hlt : j < L.length := (List.getElem?_eq_some_iff.1 h).1
  have hx : L[j] = x := (List.getElem?_eq_some_iff.1 h).2
  unfold fewL
  rw [List.take_succ_eq_append_getElem hlt, List.map_append, hx]; rfl
theorem cut_ok {w : World} {p : Pt} (h : PtOk w p) : PtOk w (cutP p) ∧ (cutP p).bs.length ≤ 200 := by
  unfold cutP
  split
  · rename_i h2
    refine ⟨⟨h.1, h.2.1, h.2.2.1, ?_, ?_⟩, by show (p.bs.take 200).length ≤ _; rw [List.length_take]; omega⟩
    · show (p.bs.take 200).length ≤ _
      rw [List.length_take]; omega
    · rcases h.2.2.2.2 with ⟨e0, _⟩ | ⟨b, o, c, e1, e2, e3, e4⟩
      · rw [e0] at h2; simp at h2
      · unfold ptV at e1
        simp only [Value.slice.injEq, true_and] at e1
        have := byt_take e4 e2 e3 200 (by omega)
        have hl : (p.bs.take 200).length = 200 := by rw [List.length_take]; omega
        unfold ptV
        dsimp only
        rw [hl, e1.1, e1.2]; exact this
  · exact ⟨h, by omega⟩
/-! ### What writing comes to -/
def pB (p : Pt) : List UInt8 := if p.raw then p.bs ++ List.replicate (p.width.toNat - p.bs.length) 0 else le p.width.toNat p.num
def pOk (n : Nat) (p : Pt) : Bool := if p.raw then decide ((p.bs.length : Int) ≤ p.width ∧ p.width ≤ 128 - (n : Int)) else putOk 128 n p.width p.num
def wPart (s : WSt) (p : Pt) : WSt := if p.raw then wBytes s p.width p.bs else wNum s p.width p.num
theorem wPart_ok {s : List UInt8} {p : Pt} (h : pOk s.length p = true) : wPart (s, 0) p = (s ++ pB p, 0) := by
  unfold wPart pOk pB at *
  split at h
  · rename_i hr
    have h := of_decide_eq_true h
    rw [if_pos hr, if_pos hr]
    unfold wBytes
    rw [if_pos rfl, if_neg (by dsimp only; omega)]
  · rename_i hr
    rw [if_neg hr, if_neg hr]
    unfold wNum
    rw [if_pos rfl, if_pos h]
theorem wPart_no {s : List UInt8} {p : Pt} (h : pOk s.length p = false) : wPart (s, 0) p = (s, 1) := by
  unfold wPart pOk at *
  split at h
  · rename_i hr
    have h := of_decide_eq_false h
    rw [if_pos hr]
    unfold wBytes
    rw [if_pos rfl, if_pos (by dsimp only; omega)]
  · rename_i hr
    rw [if_neg hr]
    unfold wNum
    rw [if_pos rfl, if_neg (by dsimp only; rw [h]; simp)]
theorem wPart_bad {s : WSt} {p : Pt} (h : s.2 ≠ 0) : wPart s p = s := by
  unfold wPart
  split
  · unfold wBytes; rw [if_neg h]
  · unfold wNum; rw [if_neg h]
theorem pOk_len {n : Nat} {p : Pt} (h : pOk n p = true) : 0 ≤ p.width ∧ (pB p).length = p.width.toNat ∧ n + p.width.toNat ≤ 128 := by
  unfold pOk pB at *
  split at h
  · rename_i hr
    have h := of_decide_eq_true h
    rw [if_pos hr]
    refine ⟨by omega, by simp; omega, by omega⟩
  · rename_i hr
    simp only [putOk, Bool.and_eq_true, fitsB_iff] at h
    rw [if_neg hr]
    refine ⟨by omega, by simp, by omega⟩
def wAll (L : List Pt) : WSt := L.foldl wPart ([], 0)
theorem wAll_succ {L : List Pt} {j : Nat} {x : Pt} (h : L[j]? = some x) : wAll (L.take (j + 1)) = wPart (wAll (L.take j)) x := by
  have hlt : j < L.length := (List.getElem?_eq_some_iff.1 h).1
  have hx : L[j] = x := (List.getElem?_eq_some_iff.1 h).2
  unfold wAll
  rw [List.take_succ_eq_append_getElem hlt, List.foldl_append, hx]; rfl
theorem fold_bad (L : List Pt) (s : WSt) (h : s.2 ≠ 0) : L.foldl wPart s = s := by
  induction L with
  | nil => rfl
  | cons x L ih => rw [List.foldl_cons, wPart_bad h]; exact ih
theorem wAll_split (L : List Pt) (j : Nat) : wAll L = (L.drop j).foldl wPart (wAll (L.take j)) := by
  unfold wAll
  rw [← List.foldl_append, List.take_append_drop]
theorem wAll_stop {L : List Pt} {j : Nat} (h : (wAll (L.take j)).2 ≠ 0) : wAll L = wAll (L.take j) := by rw [wAll_split L j, fold_bad _ _ h]
theorem fold_prefix (L : List Pt) : ∀ (s : WSt), (L.foldl wPart s).2 = 0 → s.2 = 0 ∧ ∃ r, (L.foldl wPart s).1 = s.1 ++ r := by
  induction L with
  | nil => intro s h; exact ⟨h, [], by simp⟩
  | cons x L ih =>
    intro s h
    rw [List.foldl_cons] at h ⊢
    obtain ⟨h1, r, h2⟩ := ih _ h
    by_cases he : s.2 = 0
    · refine ⟨he, ?_⟩
      obtain ⟨l, e⟩ := s
      dsimp only at he
      subst he
      cases hp : pOk l.length x with
      | true => rw [wPart_ok hp] at h2 ⊢; exact ⟨_, by rw [h2, List.append_assoc]⟩
      | false => rw [wPart_no hp] at h1; simp at h1
    · rw [wPart_bad he] at h1; exact absurd h1 he
theorem wAll_le (L : List Pt) : (wAll L).1.length ≤ 128 := by
  have key : ∀ (L : List Pt) (s : WSt), s.1.length ≤ 128 → (L.foldl wPart s).1.length ≤ 128 := by
    intro L
    induction L with
    | nil => intro s h; exact h
    | cons x L ih =>
      intro s h
      rw [List.foldl_cons]
      refine ih _ ?_
      unfold wPart
      split
      · exact wBytes_le _ _ _ h
      · exact wNum_le _ _ _ h
  exact key L _ (by simp)
theorem wAll_err (L : List Pt) : (wAll L).2 = 0 ∨ (wAll L).2 = 1 := by
  have key : ∀ (L : List Pt) (s : WSt), (s.2 = 0 ∨ s.2 = 1) → ((L.foldl wPart s).2 = 0 ∨ (L.foldl wPart s).2 = 1) := by
    intro L
    induction L with
    | nil => intro s h; exact h
    | cons x L ih =>
      intro s h
      rw [List.foldl_cons]
      refine ih _ ?_
      by_cases he : s.2 = 0
      · obtain ⟨l, e⟩ := s
        dsimp only at he
        subst he
        cases hp : pOk l.length x with
        | true => rw [wPart_ok hp]; exact .inl rfl
        | false => rw [wPart_no hp]; exact .inr rfl
      · rw [wPart_bad he]; exact h
  exact key L _ (.inl rfl)
/-- In a good whole each part is good, and lies where it lies. -/
theorem wAll_at {L : List Pt} {b : List UInt8} (h : wAll L = (b, 0)) {j : Nat} {x : Pt} (hx : L[j]? = some x) :
    ∃ s r, wAll (L.take j) = (s, 0) ∧ wAll (L.take (j + 1)) = (s ++ pB x, 0) ∧ pOk s.length x = true ∧ b = s ++ (pB x ++ r) := by
  have h1 := wAll_split L (j + 1)
  rw [h] at h1
  obtain ⟨e1, r, hr⟩ := fold_prefix (L.drop (j + 1)) (wAll (L.take (j + 1))) (by rw [← h1])
  rw [← h1] at hr
  rw [wAll_succ hx] at e1 hr ⊢
  generalize wAll (L.take j) = s at *
  obtain ⟨s, e⟩ := s
  by_cases he : e = 0
  · subst he
    cases hp : pOk s.length x with
    | true =>
      rw [wPart_ok hp] at hr ⊢
      exact ⟨s, r, rfl, rfl, hp, by rw [← List.append_assoc]; exact hr⟩
    | false => rw [wPart_no hp] at e1; simp at e1
  · rw [wPart_bad he] at e1; exact absurd e1 he
theorem zpad_drop {b s r : List UInt8} {x : Pt} (hb : b = s ++ (pB x ++ r)) : ((zpad 128 b).drop s.length).take (pB x).length = pB x := by
  subst hb
  unfold zpad
  rw [List.append_assoc, List.drop_append_of_le_length (Nat.le_refl _), List.drop_length, List.nil_append, List.append_assoc, List.take_append_of_le_length (Nat.le_refl _), List.take_length]
theorem zpad_rest (b : List UInt8) : (zpad 128 b).drop b.length = List.replicate (128 - b.length) 0 := by
  unfold zpad
  rw [List.drop_append_of_le_length (Nat.le_refl _), List.drop_length, List.nil_append]
theorem zpad_full {b : List UInt8} (h : b.length ≤ 128) : full b = zpad 128 b := by
  unfold full zpad
  rw [List.take_of_length_le h]
theorem rBytes_part {b s r : List UInt8} {x : Pt} (hb : b = s ++ (pB x ++ r)) (hp : pOk s.length x = true) : rBytes ⟨zpad 128 b, s.length, 0⟩ x.width = (⟨zpad 128 b, (s ++ pB x).length, 0⟩, pB x) := by
  obtain ⟨h1, h2, h3⟩ := pOk_len hp
  unfold rBytes
  rw [if_pos rfl, if_neg (by dsimp only; omega)]
  dsimp only
  rw [← h2, zpad_drop hb, List.length_append]
theorem rNum_part {b s r : List UInt8} {x : Pt} (hb : b = s ++ (pB x ++ r)) (hp : pOk s.length x = true) (hr : x.raw = false) : rNum ⟨zpad 128 b, s.length, 0⟩ x.width = (⟨zpad 128 b, (s ++ pB x).length, 0⟩, x.num) := by
  obtain ⟨h1, h2, h3⟩ := pOk_len hp
  unfold rNum
  have hf : fitsB 128 s.length x.width = true ∧ x.num < 256 ^ x.width.toNat := by
    unfold pOk putOk at hp
    rw [hr] at hp
    simpa using hp
  rw [if_pos rfl, if_pos hf.1]
  dsimp only
  have e : part (zpad 128 b) s.length x.width.toNat = x.num := by
    unfold part
    rw [← h2, zpad_drop hb]
    unfold pB
    rw [hr]
    exact leNat_le_of _ _ hf.2
  rw [e, ← h2, List.length_append]
end Go.Proofs.Ytdgmkjalnmpneaa
