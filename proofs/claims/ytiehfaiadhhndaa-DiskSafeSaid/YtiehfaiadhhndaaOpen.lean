/-
  What came in, opened: kind by kind.
-/
import Derived.Test.YtiehfaiadhhndaaRow
import Derived.Test.YtiehfaiadhhndaaMem
import Derived.Deep.Slices
import Derived.ChangeSame
namespace Go.Proofs.Ytiehfaiadhhndaa
open Go.ChangeShapes Go.WideShapes Go.ChangeAt Go.RowKit Go.Deep
set_option linter.unusedVariables false
/-- A slice whose elements can be read: each a row of k cells. -/
def ReadAt {α : Type} (w : World) (A : Option Addr) (f : α → List Value) (k : Nat) (L : List α) : Prop :=
  L ≠ [] → ∃ b o, A = some ⟨b, o, none⟩ ∧ ∀ i x, L[i]? = some x → ∀ j, j < k → w.cell? ⟨b, o + i * k + j, none⟩ = (f x)[j]?
theorem ReadAt.below {α : Type} {w w' : World} {A : Option Addr} {f : α → List Value} {k : Nat} {L : List α} (hk : ∀ x, (f x).length = k) (h : ReadAt w A f k L) (hb : Below w.heap.size w w') : ReadAt w' A f k L := fun hne => by
  obtain ⟨b, o, h1, h2⟩ := h hne
  refine ⟨b, o, h1, fun i x hx j hj => ?_⟩
  have hc := h2 i x hx j hj
  rw [List.getElem?_eq_getElem (by rw [hk]; exact hj)] at hc ⊢
  rw [hb.cell (World.block_lt_of_cell? w _ hc)]; exact hc
section
variable {H : Type} {enc : TypeId × Value → H} {P : Program} {W : World} {base : Nat} {spare : Nat → Bool} {held : Bool}
variable {α β : Type}
/-- Whatever reads as this type has these cells. -/
def Good (enc : TypeId × Value → H) (P : Program) (W : World) (base : Nat) (spare : Nat → Bool) (held : Bool) (t : TypeId) (f : α → List Value) (good : α → Prop) : Prop :=
  ∀ n cs x, DataW.trod enc P W base spare held n t cs = some x → ∃ a, cs = f a ∧ good a
theorem good_int {t : TypeId} {k : IntKind} (h : P.underlying t = some (.int k)) : Good enc P W base spare held t (fun z : Int => [Value.int k z]) (fun z => (Lit.int k z).wf = true) := fun n cs x hx => by
  obtain ⟨z, hz, _, hw⟩ := DataW.trod_int h hx
  exact ⟨z, hz, hw⟩
theorem good_bool {t : TypeId} (h : P.underlying t = some .bool) : Good enc P W base spare held t (fun z : Bool => [Value.bool z]) (fun _ => True) := fun n cs x hx => by
  obtain ⟨z, hz, _⟩ := DataW.trod_bool h hx
  exact ⟨z, hz, trivial⟩
theorem Good.map {t : TypeId} {f : α → List Value} {good : α → Prop} {f' : β → List Value} {good' : β → Prop} (h : Good enc P W base spare held t f good) (hm : ∀ a, good a → ∃ b, f a = f' b ∧ good' b) : Good enc P W base spare held t f' good' := fun n cs x hx => by
  obtain ⟨a, rfl, ha⟩ := h n cs x hx
  obtain ⟨b, hb, hg⟩ := hm a ha
  exact ⟨b, hb, hg⟩
theorem addr_plain {x : Addr} {v : Value} (h : W.cell? (x.add 0) = some v) : ∃ b o, x = ⟨b, o, none⟩ := by
  obtain ⟨b, o, sp⟩ := x
  cases sp with
  | none => exact ⟨b, o, rfl⟩
  | some s =>
    have e1 : (⟨b, o, some s⟩ : Addr).add 0 = ⟨b, o, some s⟩ := by simp [Addr.add]
    rw [e1] at h
    unfold World.cell? at h
    split at h <;> simp at h
/-- What is known of a slice: its address, its capacity, its elements. -/
structure Sli (α : Type) where
  A : Option Addr
  c : Nat
  L : List α
def sliF (q : Sli α) : List Value := [.slice q.A q.L.length q.c]
theorem sliF_len (q : Sli α) : (sliF q).length = 1 := rfl
def SliGood (W : World) (f : α → List Value) (k : Nat) (good : α → Prop) (q : Sli α) : Prop := q.L.length ≤ q.c ∧ q.c ≤ maxLen ∧ (∀ a ∈ q.L, good a) ∧ ReadAt W q.A f k q.L
theorem good_slice {t e : TypeId} {f : α → List Value} {good : α → Prop} {k : Nat} (hu : P.underlying t = some (.slice e)) (hc : P.cellsOf e = k) (hk0 : 0 < k) (hk : ∀ x, (f x).length = k) (he : Good enc P W base spare held e f good) :
    Good enc P W base spare held t sliF (SliGood W f k good) := fun n cs x hx => by
  rcases open_slice hu hx with ⟨rfl, _⟩ | ⟨a, len, cap, m, n', D, Pl, rfl, hb, hl, hm, hmm, hxx, hel⟩
  · exact ⟨⟨none, 0, []⟩, rfl, Nat.le_refl _, by simp [maxLen], fun a h => by simp at h, fun h => absurd rfl h⟩
  · have hlm : len ≤ m := by rw [hmm]; split <;> omega
    have each : ∀ i, i < len → ∃ x : α, W.cells? base (a.add (i * k)) k = some (f x) ∧ good x := fun i hi => by
      obtain ⟨cs', h1, h2⟩ := hel i (by omega)
      obtain ⟨x, rfl, hg⟩ := he _ _ _ h2
      rw [hc] at h1
      exact ⟨x, h1, hg⟩
    by_cases h0 : len = 0
    · subst h0
      exact ⟨⟨some a, cap, []⟩, rfl, hl, hm, fun a h => by simp at h, fun h => absurd rfl h⟩
    · haveI : Inhabited α := ⟨(each 0 (by omega)).choose⟩
      obtain ⟨X, hX⟩ := choose_lt each
      have hc0 : W.cell? (a.add 0) = (f (X 0))[0]? := by
        have := (World.cells?_some (hX 0 (by omega)).1).2.2 0 hk0
        rw [Nat.zero_mul, add_add] at this
        exact this
      rw [List.getElem?_eq_getElem (by rw [hk]; exact hk0)] at hc0
      obtain ⟨b, o, rfl⟩ := addr_plain hc0
      refine ⟨⟨some ⟨b, o, none⟩, cap, (List.range len).map X⟩, by simp [sliF], by simpa using hl, hm, fun y hy => ?_, fun _ => ⟨b, o, rfl, fun i y hy j hj => ?_⟩⟩
      · obtain ⟨i, hi, rfl⟩ := List.mem_map.1 hy
        exact (hX i (by simpa using hi)).2
      · have hi : i < len := by have := (List.getElem?_eq_some_iff.1 hy).1; simpa using this
        have hyx : X i = y := by simpa [List.getElem?_range hi] using hy
        subst hyx
        have := (World.cells?_some (hX i hi).1).2.2 j hj
        rw [add_add, add_at] at this
        rw [← this, Nat.add_assoc]
theorem good_array {n : Nat} {t e : TypeId} {f : α → List Value} {good : α → Prop} {k : Nat} (hu : P.underlying t = some (.array n e)) (hc : P.cellsOf e = k) (hn : P.cellsOf t = n * k) (he : Good enc P W base spare held e f good) :
    Good enc P W base spare held t (rowsOf f) (fun L => L.length = n ∧ ∀ a ∈ L, good a) := fun fuel cs x hx => by
  obtain ⟨xs, m, _, _, hl, hxl, hg⟩ := DataW.trod_array hu hx
  rw [hn] at hl
  rw [hc] at hg
  have each : ∀ i, i < n → ∃ x : α, (cs.drop (i * k)).take k = f x ∧ good x := fun i hi => by
    have h1 := hg i hi
    rw [List.getElem?_eq_getElem (by omega)] at h1
    exact he _ _ _ h1
  have key : ∀ (n : Nat) (cs : List Value), cs.length = n * k → (∀ i, i < n → ∃ x : α, (cs.drop (i * k)).take k = f x ∧ good x) → ∃ L : List α, cs = rowsOf f L ∧ L.length = n ∧ ∀ a ∈ L, good a := by
    intro n
    induction n with
    | zero => intro cs h _; exact ⟨[], by rw [Nat.zero_mul] at h; simpa [rowsOf] using List.eq_nil_of_length_eq_zero h, rfl, fun a h => by simp at h⟩
    | succ n ih =>
      intro cs h hh
      obtain ⟨x, hx1, hx2⟩ := hh 0 (by omega)
      rw [Nat.zero_mul, List.drop_zero] at hx1
      obtain ⟨L, hL1, hL2, hL3⟩ := ih (cs.drop k) (by rw [List.length_drop, h, Nat.add_mul]; omega) (fun i hi => by
        obtain ⟨y, hy1, hy2⟩ := hh (i + 1) (by omega)
        refine ⟨y, ?_, hy2⟩
        rw [List.drop_drop, show k + i * k = (i + 1) * k by rw [Nat.add_mul]; omega]; exact hy1)
      refine ⟨x :: L, ?_, by simp [hL2], fun a ha => ?_⟩
      · rw [rowsOf_cons, ← hx1, ← hL1, List.take_append_drop]
      · rcases List.mem_cons.1 ha with rfl | h
        · exact hx2
        · exact hL3 a h
  exact key n cs hl each
theorem good_struct {t : TypeId} {fs : Array Field} {f : α → List Value} {good : α → Prop} (hu : P.underlying t = some (.struct fs)) (hf : ∀ n (cs : List Value), cs.length = P.cellsOf t → (∀ fd ∈ fs.toList, ∃ y, DataW.trod enc P W base spare held n fd.type ((cs.drop fd.offset).take (P.cellsOf fd.type)) = some y) → ∃ a, cs = f a ∧ good a) :
    Good enc P W base spare held t f good := fun fuel cs x hx => by
  obtain ⟨xs, n, _, rfl, hl, hlen, hg⟩ := DataW.trod_struct hu hx
  refine hf n cs hl (fun fd hfd => ?_)
  obtain ⟨i, hi, rfl⟩ := List.getElem_of_mem hfd
  have := hg i fs.toList[i] (by rw [← Array.getElem?_toList]; exact List.getElem?_eq_getElem hi)
  rw [List.getElem?_eq_getElem (by rw [hlen]; simpa using hi)] at this
  exact ⟨_, this⟩
/-- A struct's fields told one by one: cells are those of the first, then the rest. -/
theorem struct_cons {n o k : Nat} {fd : Field} {fs : List Field} {cs : List Value} {f : α → List Value} {good : α → Prop} (ho : fd.offset = o) (hk : P.cellsOf fd.type = k) (hg : Good enc P W base spare held fd.type f good)
    (h : ∀ fd' ∈ fd :: fs, ∃ y, DataW.trod enc P W base spare held n fd'.type ((cs.drop fd'.offset).take (P.cellsOf fd'.type)) = some y) :
    (∃ a, cs.drop o = f a ++ cs.drop (o + k) ∧ good a) ∧ ∀ fd' ∈ fs, ∃ y, DataW.trod enc P W base spare held n fd'.type ((cs.drop fd'.offset).take (P.cellsOf fd'.type)) = some y := by
  refine ⟨?_, fun fd' h' => h fd' (List.mem_cons_of_mem _ h')⟩
  obtain ⟨y, hy⟩ := h fd List.mem_cons_self
  rw [ho, hk] at hy
  obtain ⟨a, ha, hg⟩ := hg _ _ _ hy
  exact ⟨a, by rw [← ha, ← List.drop_drop, List.take_append_drop], hg⟩
/-- An argument that is a slice. -/
theorem open_sli {t e : TypeId} {f : α → List Value} {good : α → Prop} {k : Nat} {v : Value} {d : DataW H} {ps : List MemPlace} {ts : List TypeId} {ds : List (DataW H)} {j : Nat} {r : Reach} {b0 : Nat}
    (hsz : (DataW.weightsEach P ts ds).all (· ≤ reachBytes) = true) (ht : ts[j]? = some t) (hd : ds[j]? = some d) (hu : P.underlying t = some (.slice e)) (hc : P.cellsOf e = k) (hk0 : 0 < k) (hk : ∀ x, (f x).length = k) (he : Good enc P W base spare held e f good)
    (hv : Value.okWide P W r b0 t v) (h : DataW.Trod enc P W base spare held t v d ps) : ∃ q : Sli α, v = .slice q.A q.L.length q.c ∧ SliGood W f k good q ∧ q.L.length * P.bytesOf e ≤ reachBytes := by
  obtain ⟨A, len, cap, rfl⟩ := okWide_slice hu hv
  obtain ⟨fuel, hf⟩ := h
  obtain ⟨q, hq, hg⟩ := good_slice hu hc hk0 hk he fuel _ _ hf
  have hcs : (Value.slice A len cap).cells.toList = [.slice A len cap] := rfl
  rw [hcs] at hq
  simp only [sliF, List.cons.injEq, and_true] at hq
  refine ⟨q, hq, hg, ?_⟩
  rw [hcs] at hf
  rcases open_slice hu hf with ⟨h1, _⟩ | ⟨a, l, c, m, n', D, Pl, h1, _, _, _, _, hx, _⟩
  · cases h1
    simp only [Value.slice.injEq] at hq
    rw [← hq.2.1]; simp
  · cases h1
    simp only [Value.slice.injEq] at hq
    obtain ⟨hx, _⟩ := Prod.mk.inj hx
    subst hx
    have z := sized_slice hsz ht hd hu
    simp only [List.length_map, List.length_range] at z
    rw [← hq.2.1]
    exact Nat.le_trans (Nat.mul_le_mul_right _ (by omega)) z
end
theorem reach_eq : reachBytes = 140737488351232 := rfl
end Go.Proofs.Ytiehfaiadhhndaa
