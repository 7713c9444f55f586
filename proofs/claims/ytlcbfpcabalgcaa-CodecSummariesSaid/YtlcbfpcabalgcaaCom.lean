/-
  Small lemmas on memory that several parts share.
-/
import Derived.Test.YtlcbfpcabalgcaaOpen
import Derived.Test.YtlcbfpcabalgcaaSec
import Derived.Test.YtlcbfpcabalgcaaFull
import Derived.Maps.AppendAt
namespace Go.Proofs.Ytlcbfpcabalgcaa
open Go.RowKit
set_option linter.unusedVariables false
set_option linter.unusedSimpArgs false
set_option linter.unnecessarySimpa false
theorem own_slice1 {w : World} {base e size n : Nat} {v : Value} {xs : List Value} (h : w.ownsRow base e size v n xs) : ∃ sp c, v = .slice sp n c := by
  rcases h.2 with ⟨rfl, rfl⟩ | ⟨g, cap, cur, rfl, _⟩
  · exact ⟨_, _, rfl⟩
  · exact ⟨_, _, rfl⟩
theorem head_set {w : World} {g : Nat} {t : TypeId} {cs : Array Value} (h : w.heap[g]? = some (.cells cs t (0, 0))) (i : Nat) (u : Value) : (w.setCell ⟨g, i, none⟩ u).heap[g]? = some (.cells (cs.setIfInBounds i u) t (0, 0)) := by
  simp [World.setCell, Array.getElem?_modify, h]
theorem rd_row {w : World} {g k : Nat} {t : TypeId} {cs : List Value} (h : w.heap[g]? = some (.cells cs.toArray t (0, 0))) (hk : cs.length = k) (c : Nat) : Rd w (.slice (some ⟨g, 0, none⟩) 1 c) k 1 cs :=
  ⟨by rw [hk, Nat.one_mul], .inr ⟨_, c, rfl, fun j u hu => by rw [add_at, cell_row h, Nat.zero_add]; simpa using hu⟩⟩
theorem own_low {w : World} {base base' e size n : Nat} {v : Value} {xs : List Value} (h : w.ownsRow base e size v n xs) (hb : base' ≤ base) : w.ownsRow base' e size v n xs := by
  rcases h with ⟨h1, h2 | ⟨g, cap, cur, e1, e2, e3, e4⟩⟩
  · exact ⟨h1, .inl h2⟩
  · exact ⟨h1, .inr ⟨g, cap, cur, e1, Nat.le_trans hb e2, e3, e4⟩⟩
theorem own_move {w w' : World} {base e size n : Nat} {v : Value} {xs : List Value} (h : w.ownsRow base e size v n xs) (hm : ∀ k, v.ownBlock = some k → w'.heap[k]? = w.heap[k]?) : w'.ownsRow base e size v n xs := by
  rcases h with ⟨h1, h2 | ⟨g, cap, cur, e1, e2, e3, e4⟩⟩
  · exact ⟨h1, .inl h2⟩
  · exact ⟨h1, .inr ⟨g, cap, cur, e1, e2, (hm g (by rw [e1]; rfl)).trans e3, e4⟩⟩
theorem box_range {w : World} {g : Nat} {t : TypeId} {cs : List Value} (h : w.heap[g]? = some (.cells cs.toArray t (0, 0))) : w.rangeAt g 0 cs := fun j v hv => by rw [cell_row h, Nat.zero_add]; simpa using hv
theorem fill_one (X : Array Value) (ws : List Value) (n : Nat) (hX : X.size = n) (hl : ws.length = n) : Instr.fill (fun i => some (i * n, n)) X [(0, .agg ws.toArray)] = some ws.toArray := by
  have hX2 : X = X.toList.toArray := rfl
  have := fold_set 0 ws 0 X.toList (by simp [hX, hl])
  unfold Instr.fill
  simp only [Nat.zero_mul, Value.cells, List.size_toArray, hl, hX]
  rw [if_neg (by simp)]
  unfold Instr.fill
  rw [Array.zipIdx_toArray]
  simp only [List.foldl_toArray]
  rw [hX2, this]
  rw [List.drop_eq_nil_of_le (by simp [hX, hl])]
  simp
theorem run_buildSlice_one {P : Program} (w : World) (t e : TypeId) (i : TypeInfo) (z : Array Value) (ws : List Value) (n : Nat) (ht : P.underlying t = some (.slice e)) (hi : P.info? e = some i) (hz : i.zero = some (.agg z)) (hs : i.size = n) (hzs : z.size = n) (hl : ws.length = n) (h0 : 0 < n) (h24 : n ≤ 16777216) :
    (Instr.buildSlice t 1 #[(0, .agg ws.toArray)]).run P w = .ok (.slice (some ⟨w.heap.size, 0, none⟩) 1 1) (w.alloc (.cells ws.toArray e)) := by
  subst hs
  have h1 : ¬ (2 ^ 24 < i.size) := by omega
  have h2 : ¬ (i.size = 0) := by omega
  have hf := fill_one ((Array.range (1 * i.size)).map (z[· % z.size]!)) ws i.size (by simp) hl
  rw [Nat.one_mul] at hf
  unfold Instr.buildSlice
  simp only [Sem.run_bind, run_underlying ht, Result.andThen_ok]
  simp [sizeOf, typeInfo, zeroValue, hi, hz, h1, h2, Value.cells, hf, newRow]
theorem step_buildSlice {P : Program} {ops : Array Oper} {o : Oper} {a : Act} {w : World} {K : Act → World → Prop} {Q : Exit → Act → World → Prop} {E : Prop} (hgd : o.guard = none) (t : TypeId) (x : Operand) (ho : o.op = .buildSlice t 1 #[(0, x)])
    (e : TypeId) (z : Array Value) (ws : List Value) (n bytes : Nat) (ht : P.underlying t = some (.slice e)) (hinfo : (P.info? e).map (fun i => (i.zero, i.size, i.bytes)) = some (some (.agg z), n, bytes)) (hx : a.eval x = .agg ws.toArray) (hzs : z.size = n) (hl : ws.length = n) (h0 : 0 < n) (h24 : n ≤ 16777216)
    (h : K (a.put o.dst (.slice (some ⟨w.heap.size, 0, none⟩) 1 1)) (w.alloc (.cells ws.toArray e))) : if Region.wanted o (yielded ops a.tmps) = true then Oper.wp P o a w K Q else E := by
  have hw : Region.wanted o (yielded ops a.tmps) = true := by simp [Region.wanted, hgd]
  rw [if_pos hw]
  obtain ⟨i, hi, hz, hsi, hbi⟩ := info_parts hinfo
  have hr := run_buildSlice_one w t e i z ws n ht hi hz hsi hzs hl h0 h24
  unfold Oper.wp execOp
  simp only [ho, Sem.run_bind, List.map_toArray, List.map_cons, List.map_nil, hx, hr, Result.andThen_ok]
  exact h
theorem wpList_buildSlice {P : Program} {ops : Array Oper} {rest : List Oper} {o : Oper} {a : Act} {w : World} {Q : Exit → Act → World → Prop} (hgd : o.guard = none) (t : TypeId) (x : Operand) (ho : o.op = .buildSlice t 1 #[(0, x)])
    (e : TypeId) (z : Array Value) (ws : List Value) (n bytes : Nat) (ht : P.underlying t = some (.slice e)) (hinfo : (P.info? e).map (fun i => (i.zero, i.size, i.bytes)) = some (some (.agg z), n, bytes)) (hx : a.eval x = .agg ws.toArray) (hzs : z.size = n) (hl : ws.length = n) (h0 : 0 < n) (h24 : n ≤ 16777216)
    (h : wpList P ops Q rest (a.put o.dst (.slice (some ⟨w.heap.size, 0, none⟩) 1 1)) (w.alloc (.cells ws.toArray e))) : wpList P ops Q (o :: rest) a w := by
  refine wpList_plain hgd fun K hK => ?_
  obtain ⟨i, hi, hz, hsi, hbi⟩ := info_parts hinfo
  have hr := run_buildSlice_one w t e i z ws n ht hi hz hsi hzs hl h0 h24
  unfold Oper.wp execOp
  simp only [ho, Sem.run_bind, List.map_toArray, List.map_cons, List.map_nil, hx, hr, Result.andThen_ok]
  exact hK _ _ h
theorem run_buildSlice_zero {P : Program} (w : World) (t e : TypeId) (i : TypeInfo) (z : Value) (n : Nat) (ht : P.underlying t = some (.slice e)) (hi : P.info? e = some i) (hz : i.zero = some z) (hs : i.size = n) (h0 : 0 < n) (h24 : n ≤ 16777216) :
    (Instr.buildSlice t 0 #[]).run P w = .ok (.slice (some ⟨w.heap.size, 0, none⟩) 0 0) (w.alloc (.cells #[] e)) := by
  subst hs
  have h1 : ¬ (2 ^ 24 < i.size) := by omega
  have h2 : ¬ (i.size = 0) := by omega
  unfold Instr.buildSlice
  simp only [Sem.run_bind, run_underlying ht, Result.andThen_ok]
  simp [sizeOf, typeInfo, zeroValue, hi, hz, h1, h2, Instr.fill, newRow]
  rw [Array.eq_empty_of_size_eq_zero (xs := Array.map (fun x => default) (Array.range 0)) (by simp)]
theorem wpList_buildSlice0 {P : Program} {ops : Array Oper} {rest : List Oper} {o : Oper} {a : Act} {w : World} {Q : Exit → Act → World → Prop} (hgd : o.guard = none) (t : TypeId) (ho : o.op = .buildSlice t 0 #[])
    (e : TypeId) (z : Value) (n bytes : Nat) (ht : P.underlying t = some (.slice e)) (hinfo : (P.info? e).map (fun i => (i.zero, i.size, i.bytes)) = some (some z, n, bytes)) (h0 : 0 < n) (h24 : n ≤ 16777216)
    (h : ∀ v w', w'.ownsRow w.heap.size e n v 0 [] → Below w.heap.size w w' → wpList P ops Q rest (a.put o.dst v) w') : wpList P ops Q (o :: rest) a w := by
  refine wpList_plain hgd fun K hK => ?_
  obtain ⟨i, hi, hz, hsi, hbi⟩ := info_parts hinfo
  have hr := run_buildSlice_zero w t e i z n ht hi hz hsi h0 h24
  unfold Oper.wp execOp
  simp only [ho, Sem.run_bind, List.map_toArray, List.map_nil, hr, Result.andThen_ok]
  exact hK _ _ (h _ _ ⟨by simp, .inr ⟨w.heap.size, 0, #[], rfl, Nat.le_refl _, new_heap w (.cells #[] e (0, 0)), Nat.le_refl _, by simp [maxLen], by simp, by simp⟩⟩ ((Below.refl _ w).alloc (Nat.le_refl _) _))
theorem step_buildSlice0 {P : Program} {ops : Array Oper} {o : Oper} {a : Act} {w : World} {K : Act → World → Prop} {Q : Exit → Act → World → Prop} {E : Prop} (hgd : o.guard = none) (t : TypeId) (ho : o.op = .buildSlice t 0 #[])
    (e : TypeId) (z : Value) (n bytes : Nat) (ht : P.underlying t = some (.slice e)) (hinfo : (P.info? e).map (fun i => (i.zero, i.size, i.bytes)) = some (some z, n, bytes)) (h0 : 0 < n) (h24 : n ≤ 16777216)
    (h : ∀ v w', w'.ownsRow w.heap.size e n v 0 [] → Below w.heap.size w w' → K (a.put o.dst v) w') : if Region.wanted o (yielded ops a.tmps) = true then Oper.wp P o a w K Q else E := by
  have hw : Region.wanted o (yielded ops a.tmps) = true := by simp [Region.wanted, hgd]
  rw [if_pos hw]
  obtain ⟨i, hi, hz, hsi, hbi⟩ := info_parts hinfo
  have hr := run_buildSlice_zero w t e i z n ht hi hz hsi h0 h24
  unfold Oper.wp execOp
  simp only [ho, Sem.run_bind, List.map_toArray, List.map_nil, hr, Result.andThen_ok]
  exact h _ _ ⟨by simp, .inr ⟨w.heap.size, 0, #[], rfl, Nat.le_refl _, new_heap w (.cells #[] e (0, 0)), Nat.le_refl _, by simp [maxLen], by simp, by simp⟩⟩ ((Below.refl _ w).alloc (Nat.le_refl _) _)
theorem own_arr {α : Type} {w : World} {f : α → List Value} {k base T n : Nat} {v : Value} {L : List α} (h : w.ownsRow base T k v n (rowsOf f L)) (hn : n = L.length) (h1 : 1 ≤ n) : ∃ g c, v = .slice (some ⟨g, 0, none⟩) n c ∧ ArrAt w g T f k L c ∧ base ≤ g := by
  subst hn
  rcases h with ⟨h1, ⟨rfl, h2⟩ | ⟨g, cap, cur, rfl, e2, e3, e4, e5, e6, e7⟩⟩
  · omega
  · exact ⟨g, cap, rfl, ⟨cur, e3, e6, e4, e5, e7⟩, e2⟩
def RowsAt {α : Type} (w : World) (F : Nat → Prop) (f : α → List Value) (k : Nat) (v : Value) (L : List α) : Prop :=
  ∃ A c, v = .slice A L.length c ∧ L.length ≤ c ∧ c ≤ maxLen ∧ (A = none → c = 0) ∧ ReadAt w A f k L ∧ ∀ a, A = some a → a.block < w.heap.size ∧ ¬ F a.block
section
variable {α : Type} {w w' : World} {F G : Nat → Prop} {f : α → List Value} {k : Nat} {v : Value} {L : List α}
theorem RowsAt.keep (hk : ∀ x, (f x).length = k) (h : RowsAt w F f k v L) (hw : Keep F w w') : RowsAt w' F f k v L := by
  obtain ⟨A, c, h1, h2, h3, h0, h4, h5⟩ := h
  refine ⟨A, c, h1, h2, h3, h0, fun hne => ?_, fun a ha => ⟨Nat.lt_of_lt_of_le (h5 a ha).1 hw.size, (h5 a ha).2⟩⟩
  obtain ⟨b, o, e1, e2⟩ := h4 hne
  refine ⟨b, o, e1, fun i x hx j hj => ?_⟩
  have hc := e2 i x hx j hj
  rw [List.getElem?_eq_getElem (by rw [hk]; exact hj)] at hc ⊢
  exact hw.cell hc (h5 _ e1).2
theorem RowsAt.below (hk : ∀ x, (f x).length = k) (h : RowsAt w F f k v L) (hb : Below w.heap.size w w') : RowsAt w' F f k v L :=
  h.keep hk (Keep.mono (Keep.of_below (F := fun _ => False) hb) (fun _ e => e.elim))
theorem RowsAt.foot (h : RowsAt w F f k v L) (hG : ∀ b, b < w.heap.size → G b → F b) : RowsAt w G f k v L := by
  obtain ⟨A, c, h1, h2, h3, h0, h4, h5⟩ := h
  exact ⟨A, c, h1, h2, h3, h0, h4, fun a ha => ⟨(h5 a ha).1, fun g => (h5 a ha).2 (hG _ (h5 a ha).1 g)⟩⟩
end
theorem own_rows {α : Type} {w : World} {F : Nat → Prop} {f : α → List Value} {k base T n : Nat} {v : Value} {L : List α} (hk : ∀ x, (f x).length = k) (h : w.ownsRow base T k v n (rowsOf f L)) (hn : n = L.length) (hF : ∀ b, base ≤ b → ¬ F b) : RowsAt w F f k v L := by
  subst hn
  rcases h with ⟨h1, ⟨rfl, h2⟩ | ⟨g, cap, cur, rfl, e2, e3, e4, e5, e6, e7⟩⟩
  · have : L = [] := List.eq_nil_of_length_eq_zero h2
    subst this
    exact ⟨none, 0, rfl, Nat.le_refl _, by simp [maxLen], fun _ => rfl, fun h => absurd rfl h, fun a ha => by cases ha⟩
  · refine ⟨some ⟨g, 0, none⟩, cap, rfl, e4, e5, (fun h => by cases h), fun _ => ⟨g, 0, rfl, fun i x hx j hj => ?_⟩, fun a ha => by cases ha; exact ⟨(Array.getElem?_eq_some_iff.1 e3).1, hF g e2⟩⟩
    have hi : i < L.length := (List.getElem?_eq_some_iff.1 hx).1
    have hr := rowsOf_get hk L i j x hx hj
    rw [← e7, List.getElem?_take_of_lt (by have : (i + 1) * k ≤ L.length * k := Nat.mul_le_mul_right _ hi; rw [Nat.add_mul] at this; omega)] at hr
    rw [cell_row e3, Nat.zero_add]
    simpa using hr
theorem rows_rd {α : Type} {w : World} {F : Nat → Prop} {f : α → List Value} {k : Nat} {v : Value} {L : List α} (hk : ∀ x, (f x).length = k) (hk0 : 0 < k) (h : RowsAt w F f k v L) : Rd w v k L.length (rowsOf f L) := by
  obtain ⟨A, c, rfl, h2, h3, h0, h4, h5⟩ := h
  refine ⟨rowsOf_len hk L, ?_⟩
  cases A with
  | none =>
    have hc : c = 0 := h0 rfl
    subst hc
    have : L.length = 0 := by omega
    exact .inl ⟨by rw [this], this⟩
  | some a =>
    refine .inr ⟨a, c, rfl, fun j u hu => ?_⟩
    have hj : j < L.length * k := by have := (List.getElem?_eq_some_iff.1 hu).1; rwa [rowsOf_len hk] at this
    have hne : L ≠ [] := fun e => by rw [e] at hj; simp at hj
    obtain ⟨b, o, e1, e2⟩ := h4 hne
    injection e1 with e1
    subst e1
    have hm : j % k < k := Nat.mod_lt _ hk0
    have hd : j / k < L.length := Nat.div_lt_of_lt_mul (by rw [Nat.mul_comm]; exact hj)
    have hpd : j = j / k * k + j % k := by have := Nat.div_add_mod j k; rw [Nat.mul_comm] at this; exact this.symm
    obtain ⟨x, hx⟩ : ∃ x, L[j / k]? = some x := ⟨_, List.getElem?_eq_getElem hd⟩
    have hr := rowsOf_get hk L (j / k) (j % k) x hx hm
    rw [← hpd, hu] at hr
    rw [add_at, hpd, ← Nat.add_assoc, e2 _ _ hx _ hm]
    exact hr.symm
theorem RowsAt.nil {α : Type} {w : World} {F : Nat → Prop} {f : α → List Value} {k : Nat} : RowsAt (α := α) w F f k (.slice none 0 0) [] := ⟨none, 0, rfl, Nat.le_refl _, by simp [maxLen], fun _ => rfl, fun h => absurd rfl h, fun a ha => by cases ha⟩
theorem rows_at {α : Type} {w : World} {A : Option Addr} {f : α → List Value} {k : Nat} {L : List α} (hk : ∀ x, (f x).length = k) (h : ReadAt w A f k L) {i : Nat} {x : α} (hi : L[i]? = some x) : ∃ b o, A = some ⟨b, o, none⟩ ∧ w.rangeAt b (o + i * k) (f x) := by
  obtain ⟨b, o, h1, h2⟩ := h (fun e => by rw [e] at hi; simp at hi)
  refine ⟨b, o, h1, fun j v hv => ?_⟩
  have hj : j < k := by have := (List.getElem?_eq_some_iff.1 hv).1; rwa [hk] at this
  rw [h2 i x hi j hj]; exact hv
theorem there_new (w : World) (cs : Array Value) (t : TypeId) {n : Nat} (hn : n = cs.size) : (w.alloc (.cells cs t (0, 0))).there w.heap.size 0 n := fun j hj => by
  have := cell_row (new_heap w (.cells cs t (0, 0))) (0 + j)
  refine ⟨by rw [this]; simp; omega, free_row (new_heap w _) _⟩
theorem there_of {w : World} {g : Nat} {cs : Array Value} {t : TypeId} (h : w.heap[g]? = some (.cells cs t (0, 0))) {n : Nat} (hn : n = cs.size) : w.there g 0 n := fun j hj => by
  have := cell_row h (0 + j)
  refine ⟨by rw [this]; simp; omega, free_row h _⟩
theorem bdrewL {w w' : World} (h : Below w.drew.heap.size w.drew w') : Below w.heap.size w w' := ⟨h.os, h.tape, h.output, h.size, h.block⟩
theorem wpList_append_rd_at {P : Program} (w : World) {ops : Array Oper} {rest : List Oper} {o : Oper} {a : Act} {Q : Exit → Act → World → Prop} (hgd : o.guard = none) (s x : Operand) (t : TypeId)
    (ho : o.op = .call { callee := .builtin .append, args := #[s, x], argTypes := #[t, t] })
    (base : Nat) (e : TypeId) (z : Value) (size bytes : Nat) (ht : P.underlying t = some (.slice e)) (hinfo : (P.info? e).map (fun i => (i.zero, i.size, i.bytes)) = some (some z, size, bytes))
    (hzs : z.cells.size = size) (hsz : 0 < size)
    (v : Value) (n : Nat) (xs : List Value) (hs : a.eval s = v) (hown : w.ownsRow base e size v n xs)
    (u : Value) (m : Nat) (news : List Value) (hx : a.eval x = u) (hu : Rd w u size m news) (h1 : ∀ u ∈ news, u.oneCell' = true)
    (hbytes : (n + m) * bytes ≤ 140737488355328) (hby : 0 < bytes) (hbase : base ≤ w.heap.size)
    (h : ∀ v' w', w'.ownsRow base e size v' (n + m) (xs ++ news) → Below base w w' → w.grownBy w' v.ownBlock → (v'.ownBlock = v.ownBlock ∨ v'.ownBlock = some w.heap.size) → wpList P ops Q rest (a.put o.dst v') w') : wpList P ops Q (o :: rest) a w := by
  obtain ⟨i, hi, hz, hsi, hbi⟩ := info_parts hinfo
  have h63 : n + m ≤ maxLen := by
    have : n + m ≤ (n + m) * bytes := Nat.le_mul_of_pos_right _ hby
    unfold maxLen; omega
  rcases hu.2 with ⟨rfl, rfl⟩ | ⟨ad, c, rfl, hc⟩
  · have hnews : news = [] := List.eq_nil_of_length_eq_zero (by simpa using hu.1)
    subst hnews
    refine wpList_plain hgd fun K hK' => ?_
    have hrun := run_append_owned_none (P := P) (w := w) base t o.type e i size ht hi v n xs hown
    unfold Oper.wp
    simp [execOp, ho, resolve, invoke, builtin, hs, hx, hrun, Result.andThen]
    exact hK' _ _ (by simpa using h v w (by simpa using hown) (Below.refl _ _) (World.grownBy.refl _ _) (.inl rfl))
  · exact wpList_append_own_at w hgd s x t ho base e i z size bytes ht hi hz hsi hbi hzs hsz v n xs hs hown ad m c news hx hu.1 hc h1 h63 hbytes hbase
      (fun v' w' h2 h3 _ h5 => h v' w' h2 (grown_below hown h3 hbase) h3 h5)
theorem own_full {w : World} {base e n g : Nat} {xs : List Value} (h : w.ownsRow base e 1 (.slice (some ⟨g, 0, none⟩) n n) n xs) : w.heap[g]? = some (.cells xs.toArray e (0, 0)) := by
  rcases h with ⟨h1, ⟨e1, _⟩ | ⟨g', cap, cur, e1, e2, e3, e4, e5, e6, e7⟩⟩
  · cases e1
  · cases e1
    rw [e3]
    have : cur.toList = xs := by rw [← e7, List.take_of_length_le (by simp [e6])]
    congr 2
    rw [← this]
theorem rd_bytes {w : World} {g n : Nat} {t : TypeId} {l : List UInt8} (h : w.heap[g]? = some (.cells (bvs l).toArray t (0, 0))) (hn : l.length = n) (c : Nat) : Rd w (.slice (some ⟨g, 0, none⟩) n c) 1 n (bvs l) :=
  ⟨by simp [hn], .inr ⟨_, c, rfl, fun j u hu => by rw [add_at, cell_row h, Nat.zero_add]; simpa using hu⟩⟩
end Go.Proofs.Ytlcbfpcabalgcaa
