/-
  Rows of equal length in a block; what a call may have changed. No program is in sight.
-/
import Derived.Test.YtiehfaiadhhndaaBase
namespace Go.Proofs.Ytiehfaiadhhndaa
open Go.RowKit
set_option linter.unusedVariables false
set_option linter.unusedSimpArgs false
section
variable {α : Type} {f : α → List Value} {k : Nat}
/-! ### Rows of k cells, one behind the other -/
def rowsOf (f : α → List Value) (L : List α) : List Value := L.flatMap f
theorem rowsOf_nil : rowsOf f [] = [] := rfl
theorem rowsOf_cons (x : α) (L : List α) : rowsOf f (x :: L) = f x ++ rowsOf f L := rfl
theorem rowsOf_append (L M : List α) : rowsOf f (L ++ M) = rowsOf f L ++ rowsOf f M := by simp [rowsOf]
theorem rowsOf_snoc (L : List α) (x : α) : rowsOf f (L ++ [x]) = rowsOf f L ++ f x := by simp [rowsOf]
theorem rowsOf_len (hk : ∀ x, (f x).length = k) (L : List α) : (rowsOf f L).length = L.length * k := by
  induction L with
  | nil => simp [rowsOf]
  | cons x L ih => rw [rowsOf_cons, List.length_append, hk, ih, List.length_cons, Nat.add_mul]; omega
theorem rowsOf_get (hk : ∀ x, (f x).length = k) : ∀ (L : List α) (i j : Nat) (x : α), L[i]? = some x → j < k → (rowsOf f L)[i * k + j]? = (f x)[j]?
  | [], i, j, x, h, hj => by simp at h
  | y :: L, 0, j, x, h, hj => by
    obtain rfl : y = x := by simpa using h
    rw [rowsOf_cons, Nat.zero_mul, Nat.zero_add, List.getElem?_append_left (by rw [hk]; exact hj)]
  | y :: L, i + 1, j, x, h, hj => by
    rw [rowsOf_cons, show (i + 1) * k + j = k + (i * k + j) by rw [Nat.add_mul]; omega, List.getElem?_append_right (by rw [hk]; omega), hk, Nat.add_sub_cancel_left]
    exact rowsOf_get hk L i j x (by simpa using h) hj
theorem rowsOf_one (h : ∀ x, ∀ u ∈ f x, u.oneCell' = true) (L : List α) : ∀ u ∈ rowsOf f L, u.oneCell' = true := by
  intro u hu
  obtain ⟨x, _, hx⟩ := List.mem_flatMap.1 hu
  exact h x u hx
theorem rowsOf_take (hk : ∀ x, (f x).length = k) (L : List α) (n : Nat) : (rowsOf f L).take (n * k) = rowsOf f (L.take n) := by
  by_cases hn : n ≤ L.length
  · conv => lhs; rw [← List.take_append_drop n L, rowsOf_append]
    rw [List.take_append_of_le_length (by rw [rowsOf_len hk, List.length_take, Nat.min_eq_left hn]; exact Nat.le_refl _), List.take_of_length_le (by rw [rowsOf_len hk, List.length_take, Nat.min_eq_left hn]; exact Nat.le_refl _)]
  · rw [List.take_of_length_le (l := L) (by omega), List.take_of_length_le (by rw [rowsOf_len hk]; exact Nat.mul_le_mul_right _ (by omega))]
theorem rowsOf_drop (hk : ∀ x, (f x).length = k) (L : List α) (n : Nat) : (rowsOf f L).drop (n * k) = rowsOf f (L.drop n) := by
  by_cases hn : n ≤ L.length
  · conv => lhs; rw [← List.take_append_drop n L, rowsOf_append]
    rw [List.drop_append_of_le_length (by rw [rowsOf_len hk, List.length_take, Nat.min_eq_left hn]; exact Nat.le_refl _), List.drop_eq_nil_of_le (by rw [rowsOf_len hk, List.length_take, Nat.min_eq_left hn]; exact Nat.le_refl _), List.nil_append]
  · rw [List.drop_eq_nil_of_le (as := L) (by omega), List.drop_eq_nil_of_le (by rw [rowsOf_len hk]; exact Nat.mul_le_mul_right _ (by omega))]; rfl
theorem rowsOf_splice (hk : ∀ x, (f x).length = k) (L : List α) (i : Nat) (x : α) (hi : i < L.length) : splice (rowsOf f L) (i * k) (f x) = rowsOf f (L.set i x) := by
  unfold splice
  rw [rowsOf_take hk, hk, show i * k + k = (i + 1) * k by rw [Nat.add_mul]; omega, rowsOf_drop hk, List.set_eq_take_append_cons_drop, if_pos hi, rowsOf_append, rowsOf_cons]
/-- One after the other, the cells of one row are set. -/
def setAt (cs : List Value) (o : Nat) : List Value → List Value
  | [] => cs
  | v :: l => setAt (cs.set o v) (o + 1) l
theorem setAt_eq : ∀ (l cs : List Value) (o : Nat), o + l.length ≤ cs.length → setAt cs o l = splice cs o l
  | [], cs, o, h => by simp [setAt, splice_nil]
  | v :: l, cs, o, h => by
    rw [setAt, setAt_eq l _ _ (by simp at h ⊢; omega)]
    simp only [List.length_cons] at h
    unfold splice
    rw [List.take_set, List.drop_set_of_lt (by omega)]
    rw [List.take_succ_eq_append_getElem (by omega)]
    have h1 : ((cs.take o) ++ [cs[o]]).set o v = cs.take o ++ [v] := by
      rw [List.set_append_right _ _ (by simp; omega)]
      simp [show o - min o cs.length = 0 by omega]
    rw [h1]
    simp only [List.append_assoc, List.cons_append, List.nil_append, List.length_cons]
    rw [show o + 1 + l.length = o + (l.length + 1) by omega]
theorem rowsOf_setAt (hk : ∀ x, (f x).length = k) (L : List α) (i : Nat) (x : α) (hi : i < L.length) : setAt (rowsOf f L) (i * k) (f x) = rowsOf f (L.set i x) := by
  rw [setAt_eq _ _ _ (by rw [hk, rowsOf_len hk, show i * k + k = (i + 1) * k by rw [Nat.add_mul]; omega]; exact Nat.mul_le_mul_right _ hi), rowsOf_splice hk L i x hi]
/-! ### A block whose first cells are told -/
def RawAt (w : World) (g : Nat) (T : TypeId) (k n c : Nat) (cs : List Value) : Prop :=
  ∃ cur : Array Value, w.heap[g]? = some (.cells cur T (0, 0)) ∧ cur.size = c * k ∧ n ≤ c ∧ c ≤ maxLen ∧ cur.toList.take (n * k) = cs
theorem RawAt.lt {w : World} {g k n c : Nat} {T : TypeId} {cs : List Value} (h : RawAt w g T k n c cs) : g < w.heap.size := (Array.getElem?_eq_some_iff.1 h.choose_spec.1).1
theorem RawAt.move {w w' : World} {g k n c : Nat} {T : TypeId} {cs : List Value} (h : RawAt w g T k n c cs) (hb : w'.heap[g]? = w.heap[g]?) : RawAt w' g T k n c cs := by
  obtain ⟨cur, h1, h2⟩ := h
  exact ⟨cur, hb.trans h1, h2⟩
theorem RawAt.cell {w : World} {g k n c : Nat} {T : TypeId} {cs : List Value} (h : RawAt w g T k n c cs) (p : Nat) (hp : p < n * k) : w.cell? ⟨g, p, none⟩ = cs[p]? := by
  obtain ⟨cur, h1, h2, h3, h4, rfl⟩ := h
  rw [cell_row h1, List.getElem?_take_of_lt hp]; simp
theorem RawAt.free {w : World} {g k n c : Nat} {T : TypeId} {cs : List Value} (h : RawAt w g T k n c cs) (p : Nat) : w.frozen? ⟨g, p, none⟩ = false := by
  obtain ⟨cur, h1, _⟩ := h
  exact free_row h1 p
theorem RawAt.set {w : World} {g k n c : Nat} {T : TypeId} {cs : List Value} (h : RawAt w g T k n c cs) (p : Nat) (v : Value) : RawAt (w.setCell ⟨g, p, none⟩ v) g T k n c (cs.set p v) := by
  obtain ⟨cur, h1, h2, h3, h4, rfl⟩ := h
  rw [setCell_row h1]
  refine ⟨cur.setIfInBounds p v, setRow_heap _ _ _ _ _ _ h1, by simpa using h2, h3, h4, ?_⟩
  rw [Array.toList_setIfInBounds, List.take_set]
/-- A block whose first cells are the rows of a list. -/
def ArrAt (w : World) (g : Nat) (T : TypeId) (f : α → List Value) (k : Nat) (L : List α) (c : Nat) : Prop := RawAt w g T k L.length c (rowsOf f L)
theorem ArrAt.cell {w : World} {g c : Nat} {T : TypeId} {L : List α} (hk : ∀ x, (f x).length = k) (h : ArrAt w g T f k L c) (i j : Nat) (x : α) (hi : L[i]? = some x) (hj : j < k) : w.cell? ⟨g, i * k + j, none⟩ = (f x)[j]? := by
  have hlt : i < L.length := (List.getElem?_eq_some_iff.1 hi).1
  rw [RawAt.cell h _ (by have : (i + 1) * k ≤ L.length * k := Nat.mul_le_mul_right _ hlt; rw [Nat.add_mul] at this; omega), rowsOf_get hk L i j x hi hj]
theorem ArrAt.of_raw {w : World} {g c n : Nat} {T : TypeId} {L : List α} {cs : List Value} (h : RawAt w g T k n c cs) (hn : n = L.length) (hc : cs = rowsOf f L) : ArrAt w g T f k L c := by subst hn; subst hc; exact h
theorem ArrAt.own {w : World} {g c base : Nat} {T : TypeId} {L : List α} (hk : ∀ x, (f x).length = k) (h : ArrAt w g T f k L c) (hb : base ≤ g) : w.ownsRow base T k (.slice (some ⟨g, 0, none⟩) L.length c) L.length (rowsOf f L) := by
  obtain ⟨cur, h1, h2, h3, h4, h5⟩ := h
  exact ⟨rowsOf_len hk L, .inr ⟨g, c, cur, rfl, hb, h1, h3, h4, h2, h5⟩⟩
theorem ArrAt.of_own {w : World} {g c base n : Nat} {T : TypeId} {L : List α} (h : w.ownsRow base T k (.slice (some ⟨g, 0, none⟩) n c) n (rowsOf f L)) (hn : n = L.length) : ArrAt w g T f k L c ∧ base ≤ g := by
  subst hn
  rcases h.2 with ⟨h1, _⟩ | ⟨g', cap, cur, h1, h2, h3, h4, h5, h6, h7⟩
  · cases h1
  · cases h1
    exact ⟨⟨cur, h3, h6, h4, h5, h7⟩, h2⟩
end
theorem made_rows {α : Type} {k : Nat} (f : α → List Value) (hk : ∀ x, (f x).length = k) (x : α) (z : Array Value) (n : Nat) (hz : z.toList = f x) : (madeCells z (n * k)).toList = rowsOf f (List.replicate n x) := by
  have hzs : z.size = k := by rw [← hk x, ← hz]; simp
  have hl := rowsOf_len hk (List.replicate n x)
  rw [List.length_replicate] at hl
  apply List.ext_getElem?
  intro p
  by_cases hp : p < n * k
  · have hk0 : 0 < k := by
      rcases Nat.eq_zero_or_pos k with h | h
      · rw [h, Nat.mul_zero] at hp; omega
      · exact h
    have hm : p % k < k := Nat.mod_lt _ hk0
    have hd : p / k < n := Nat.div_lt_of_lt_mul (by rw [Nat.mul_comm]; exact hp)
    have hpd : p = p / k * k + p % k := by have := Nat.div_add_mod p k; rw [Nat.mul_comm] at this; exact this.symm
    have hr : (rowsOf f (List.replicate n x))[p]? = (f x)[p % k]? := by
      conv => lhs; rw [hpd]
      exact rowsOf_get hk _ _ _ x (by rw [List.getElem?_replicate, if_pos hd]) hm
    rw [hr, ← hz]
    unfold madeCells
    rw [Array.getElem?_toList, Array.getElem?_map, Array.getElem?_range, if_pos hp, Array.getElem?_toList]
    simp only [Option.map_some, hzs]
    rw [getElem!_pos z (p % k) (by rw [hzs]; exact hm), Array.getElem?_eq_getElem (by rw [hzs]; exact hm)]
  · rw [List.getElem?_eq_none (by rw [Array.length_toList, size_madeCells]; omega), List.getElem?_eq_none (by rw [hl]; omega)]
/-! ### What a call may have changed: new blocks, and those of F -/
structure Keep (F : Nat → Prop) (w w' : World) : Prop where
  os : w'.os = w.os
  tape : w'.tape = w.tape
  output : w'.output = w.output
  size : w.heap.size ≤ w'.heap.size
  block : ∀ k, k < w.heap.size → ¬ F k → w'.heap[k]? = w.heap[k]?
theorem Keep.refl (F : Nat → Prop) (w : World) : Keep F w w := ⟨rfl, rfl, rfl, Nat.le_refl _, fun _ _ _ => rfl⟩
theorem Keep.trans {F : Nat → Prop} {a b c : World} (h : Keep F a b) (k : Keep F b c) : Keep F a c :=
  ⟨k.os.trans h.os, k.tape.trans h.tape, k.output.trans h.output, Nat.le_trans h.size k.size, fun i hi hF => (k.block i (Nat.lt_of_lt_of_le hi h.size) hF).trans (h.block i hi hF)⟩
/-- Those of the second that lie in blocks that the first has made are no matter. -/
theorem Keep.trans' {F G : Nat → Prop} {a b c : World} (h : Keep F a b) (k : Keep G b c) (hG : ∀ i, i < a.heap.size → G i → F i) : Keep F a c :=
  ⟨k.os.trans h.os, k.tape.trans h.tape, k.output.trans h.output, Nat.le_trans h.size k.size, fun i hi hF => (k.block i (Nat.lt_of_lt_of_le hi h.size) (fun g => hF (hG i hi g))).trans (h.block i hi hF)⟩
theorem Keep.mono {F G : Nat → Prop} {a b : World} (h : Keep F a b) (hFG : ∀ k, F k → G k) : Keep G a b := ⟨h.os, h.tape, h.output, h.size, fun k hk hG => h.block k hk (fun hF => hG (hFG k hF))⟩
theorem Keep.of_below {F : Nat → Prop} {a b : World} (h : Below a.heap.size a b) : Keep F a b := ⟨h.os, h.tape, h.output, h.size, fun k hk _ => h.block k hk⟩
theorem Keep.below {F : Nat → Prop} {a b : World} {B : Nat} (h : Keep F a b) (hF : ∀ k, F k → B ≤ k) (hB : B ≤ a.heap.size) : Below B a b := ⟨h.os, h.tape, h.output, h.size, fun k hk => h.block k (by omega) (fun f => by have := hF k f; omega)⟩
theorem Keep.drew {F : Nat → Prop} {a b : World} (h : Keep F a b) : Keep F a b.drew := ⟨h.os, h.tape, h.output, h.size, h.block⟩
theorem Keep.drewN {F : Nat → Prop} {a b : World} (h : Keep F a b) (n : Nat) : Keep F a (b.drewN n) := ⟨h.os, h.tape, h.output, h.size, h.block⟩
theorem Keep.setCell {F : Nat → Prop} {a b : World} (h : Keep F a b) (g o : Nat) (v : Value) (hg : F g) : Keep F a (b.setCell ⟨g, o, none⟩ v) :=
  ⟨h.os, h.tape, h.output, by simpa [World.setCell] using h.size, fun k hk hF => (Below.heap_setCell b ⟨g, o, none⟩ v k (fun e => hF (by subst e; exact hg))).trans (h.block k hk hF)⟩
theorem Keep.cell {F : Nat → Prop} {a b : World} (h : Keep F a b) {p : Addr} {v : Value} (hc : a.cell? p = some v) (hF : ¬ F p.block) : b.cell? p = some v := by
  have := h.block p.block (World.block_lt_of_cell? a p hc) hF
  rw [World.cell?_of_block this]; exact hc
theorem Keep.heap {F : Nat → Prop} {a b : World} (h : Keep F a b) {g : Nat} {o : Obj} (hc : a.heap[g]? = some o) (hF : ¬ F g) : b.heap[g]? = some o := (h.block g (Array.getElem?_eq_some_iff.1 hc).1 hF).trans hc
theorem RawAt.keep {F : Nat → Prop} {w w' : World} {g k n c : Nat} {T : TypeId} {cs : List Value} (h : RawAt w g T k n c cs) (hk : Keep F w w') (hF : ¬ F g) : RawAt w' g T k n c cs := h.move (hk.block g h.lt hF)
theorem RawAt.below {w w' : World} {g k n c : Nat} {T : TypeId} {cs : List Value} (h : RawAt w g T k n c cs) (hb : Below w.heap.size w w') : RawAt w' g T k n c cs := h.move (hb.block g h.lt)
theorem new_heap (w : World) (o : Obj) : (w.alloc o).heap[w.heap.size]? = some o := heap_alloc_new w o
theorem old_heap {w w' : World} {g : Nat} {o : Obj} (h : w.heap[g]? = some o) (hb : Below w.heap.size w w') : w'.heap[g]? = some o := (hb.block g (Array.getElem?_eq_some_iff.1 h).1).trans h
end Go.Proofs.Ytiehfaiadhhndaa
