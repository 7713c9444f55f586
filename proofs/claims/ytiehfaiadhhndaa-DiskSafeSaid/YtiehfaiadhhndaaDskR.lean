/-
  Disk: the reference's New, lay.
-/
import Derived.Test.YtiehfaiadhhndaaDskQ
namespace Go.Proofs.Ytiehfaiadhhndaa
open Go.RowKit
set_option linter.unusedVariables false
set_option linter.unusedSimpArgs false
set_option linter.unnecessarySimpa false
theorem info_arr3 : (Try.prog.info? 30).map (fun i => (i.zero, i.size, i.bytes)) = some (some (.agg zArr), 128, 128) := by kernel_rfl
theorem info_rwr3 : (Try.prog.info? 63).map (fun i => (i.zero, i.size, i.bytes)) = some (some (.agg (wrF wr0).toArray), 129, 136) := by kernel_rfl
/-- Rows of a call's own, as rows that are read. -/
theorem own_rows {α : Type} {w : World} {F : Nat → Prop} {f : α → List Value} {k base T n : Nat} {v : Value} {L : List α} (hk : ∀ x, (f x).length = k) (h : w.ownsRow base T k v n (rowsOf f L)) (hn : n = L.length) (hF : ∀ b, base ≤ b → ¬ F b) : RowsAt w F f k v L := by
  subst hn
  rcases h with ⟨h1, ⟨rfl, h2⟩ | ⟨g, cap, cur, rfl, e2, e3, e4, e5, e6, e7⟩⟩
  · have : L = [] := List.eq_nil_of_length_eq_zero h2
    subst this
    exact ⟨none, 0, rfl, Nat.le_refl _, by simp [maxLen], fun _ => rfl, fun h => absurd rfl h, fun a ha => by cases ha⟩
  · refine ⟨some ⟨g, 0, none⟩, cap, rfl, e4, e5, (fun h => by cases h), fun _ => ⟨g, 0, rfl, fun i x hx j hj => ?_⟩, fun a ha => by cases ha; exact ⟨(Array.getElem?_eq_some_iff.1 e3).1, hF g e2⟩⟩
    have hi : i < L.length := (List.getElem?_eq_some_iff.1 hx).1
    have hr := rowsOf_get hk L i j x hx hj
    rw [← e7, List.getElem?_take_of_lt (by have : (i + 1) * k ≤ L.length * k := Nat.mul_le_mul_right _ hi; rw [Nat.add_mul] at this; omega)] at hr
    rw [cell_row e3, Nat.zero_add]
    simpa using hr
theorem own_low {w : World} {base base' e size n : Nat} {v : Value} {xs : List Value} (h : w.ownsRow base e size v n xs) (hb : base' ≤ base) : w.ownsRow base' e size v n xs := by
  rcases h with ⟨h1, h2 | ⟨g, cap, cur, e1, e2, e3, e4⟩⟩
  · exact ⟨h1, .inl h2⟩
  · exact ⟨h1, .inr ⟨g, cap, cur, e1, Nat.le_trans hb e2, e3, e4⟩⟩
/-- Rows that are read, as an append reads them. -/
theorem rows_rd {α : Type} {w : World} {F : Nat → Prop} {f : α → List Value} {k : Nat} {v : Value} {L : List α} (hk : ∀ x, (f x).length = k) (hk0 : 0 < k) (h : RowsAt w F f k v L) : Rd w v k L.length (rowsOf f L) := by
  obtain ⟨A, c, rfl, h2, h3, h0, h4, h5⟩ := h
  refine ⟨rowsOf_len hk L, ?_⟩
  cases A with
  | none =>
    have hc : c = 0 := h0 rfl
    subst hc
    have : L.length = 0 := by omega
    exact .inl ⟨by rw [this], this⟩
  | some a =>
    refine .inr ⟨a, c, rfl, fun j u hu => ?_⟩
    have hj : j < L.length * k := by have := (List.getElem?_eq_some_iff.1 hu).1; rwa [rowsOf_len hk] at this
    have hne : L ≠ [] := fun e => by rw [e] at hj; simp at hj
    obtain ⟨b, o, e1, e2⟩ := h4 hne
    injection e1 with e1
    subst e1
    have hm : j % k < k := Nat.mod_lt _ hk0
    have hd : j / k < L.length := Nat.div_lt_of_lt_mul (by rw [Nat.mul_comm]; exact hj)
    have hpd : j = j / k * k + j % k := by have := Nat.div_add_mod j k; rw [Nat.mul_comm] at this; exact this.symm
    obtain ⟨x, hx⟩ : ∃ x, L[j / k]? = some x := ⟨_, List.getElem?_eq_getElem hd⟩
    have hr := rowsOf_get hk L (j / k) (j % k) x hx hm
    rw [← hpd, hu] at hr
    rw [add_at, hpd, ← Nat.add_assoc, e2 _ _ hx _ hm]
    exact hr.symm
theorem RowsAt.nil {α : Type} {w : World} {F : Nat → Prop} {f : α → List Value} {k : Nat} : RowsAt (α := α) w F f k (.slice none 0 0) [] := ⟨none, 0, rfl, Nat.le_refl _, by simp [maxLen], fun _ => rfl, fun h => absurd rfl h, fun a ha => by cases ha⟩
def set5 (w : World) (g : Nat) (a b c d e : Value) : World := ((((w.setCell ⟨g, 0, none⟩ a).setCell ⟨g, 1, none⟩ b).setCell ⟨g, 2, none⟩ c).setCell ⟨g, 3, none⟩ d).setCell ⟨g, 4, none⟩ e
theorem set5_heap {w : World} {g : Nat} {t : TypeId} {a b c d e a' b' c' d' e' : Value} (h : w.heap[g]? = some (.cells #[a, b, c, d, e] t (0, 0))) : (set5 w g a' b' c' d' e').heap[g]? = some (.cells #[a', b', c', d', e'] t (0, 0)) := by
  have := head_set (head_set (head_set (head_set (head_set h 0 a') 1 b') 2 c') 3 d') 4 e'
  simpa [set5] using this
theorem set5_below {w w' : World} {n g : Nat} {a b c d e : Value} (h : Below n w w') (hn : n ≤ g) : Below n w (set5 w' g a b c d e) :=
  ((((h.setCell (p := ⟨g, 0, none⟩) hn _).setCell (p := ⟨g, 1, none⟩) hn _).setCell (p := ⟨g, 2, none⟩) hn _).setCell (p := ⟨g, 3, none⟩) hn _).setCell (p := ⟨g, 4, none⟩) hn _
theorem set5_far {w : World} {g k : Nat} {a b c d e : Value} (hk : k ≠ g) : (set5 w g a b c d e).heap[k]? = w.heap[k]? := by
  unfold set5
  rw [Below.heap_setCell _ _ _ _ hk, Below.heap_setCell _ _ _ _ hk, Below.heap_setCell _ _ _ _ hk, Below.heap_setCell _ _ _ _ hk, Below.heap_setCell _ _ _ _ hk]
theorem own_move {w w' : World} {base e size n : Nat} {v : Value} {xs : List Value} (h : w.ownsRow base e size v n xs) (hm : ∀ k, v.ownBlock = some k → w'.heap[k]? = w.heap[k]?) : w'.ownsRow base e size v n xs := by
  rcases h with ⟨h1, h2 | ⟨g, cap, cur, e1, e2, e3, e4⟩⟩
  · exact ⟨h1, .inl h2⟩
  · exact ⟨h1, .inr ⟨g, cap, cur, e1, e2, (hm g (by rw [e1]; rfl)).trans e3, e4⟩⟩
theorem box_range {w : World} {g : Nat} {t : TypeId} {cs : List Value} (h : w.heap[g]? = some (.cells cs.toArray t (0, 0))) : w.rangeAt g 0 cs := fun j v hv => by rw [cell_row h, Nat.zero_add]; simpa using hv
theorem size_rdisk : (Try.prog.info? 43).map (·.size) = some 5 := by kernel_rfl
theorem load_rdisk {w : World} {g : Nat} {a b c d e : Value} (h : w.heap[g]? = some (.cells #[a, b, c, d, e] 43 (0, 0))) : (loadVar 43 ⟨g, 0, none⟩).run Try.prog w = .ok (.agg #[a, b, c, d, e]) w :=
  run_loadVar_mid w g 0 43 [a, b, c, d, e] _ (box_range h) Try.underlying43 rfl size_rdisk
set_option maxHeartbeats 4000000 in
theorem rnew3_any (n : Nat) (w : World) (hn : n ≤ 65536) : Calls Try.prog 29 #[.int .i64 (n : Int)] w fun e w' => ∃ vS, e = .returned (rdV (dk0 n) vS (.slice none 0 0)) ∧ w'.ownsRow w.heap.size 30 128 vS n (rowsOf scF (List.replicate n sc0)) ∧ Below w.heap.size w w' := by
  have HB0 := Lib.hid ((Below.refl w.heap.size w).alloc (Nat.le_refl _) (.cells #[.slice none 0 0, .slice none 0 0, .bool false, .int .i64 0, .int .i64 0] 43))
  have HX0 := Lib.hid (new_heap w (.cells #[.slice none 0 0, .slice none 0 0, .bool false, .int .i64 0, .int .i64 0] 43))
  go_enter Try.func29, Try.ntmps29
  go_upto_region 1 with fail
  revert HB0 HX0
  generalize hwe : w.alloc (.cells #[.slice none 0 0, .slice none 0 0, .bool false, .int .i64 0, .int .i64 0] 43) = w1
  intro HB0 HX0
  have HW := Lib.hid hwe
  clear hwe
  have hsz : w.heap.size < w1.heap.size := (Array.getElem?_eq_some_iff.1 HX0.out).1
  go_wp2_with (first
    | (refine wpList_make_rd w1 rfl _ _ 40 rfl w1.heap.size 30 (.agg zArr) 128 128 Try.underlying40 info_arr3 (n : Int) (n : Int) n rfl rfl rfl rfl (by omega) (by unfold maxLen; omega) (Nat.le_refl _) ?_; intro w2 how hb2; have HO2 := Lib.hid how; have HB2 := Lib.hid hb2; have hc := old_heap HX0.out hb2; have k0 := cell_row hc 0; have k1 := cell_row hc 1; have k2 := cell_row hc 2; have k3 := cell_row hc 3; have k4 := cell_row hc 4; have f0 := free_row hc; clear how hb2 hc))
  rw [← set5]
  have h2 := old_heap HX0.out HB2.out
  have h5 := set5_heap (a' := .slice (some ⟨w1.heap.size, 0, none⟩) n n) (b' := .slice none 0 0) (c' := .bool false) (d' := .int .i64 (-1)) (e' := .int .i64 0) h2
  refine bodyPost_ret (results_cell1 Try.results29 rfl (load_rdisk h5)) rfl ⟨.slice (some ⟨w1.heap.size, 0, none⟩) n n, ?_, ?_, set5_below (bnext HB0.out HB2.out) (Nat.le_refl _)⟩
  · simp [rdV, dk0]
  · have hm : (madeCells (Value.agg zArr).cells (n * 128)).toList = rowsOf scF (List.replicate n sc0) := made_rows scF scF_len sc0 zArr n rfl
    have ho := HO2.out
    rw [hm] at ho
    exact own_low (own_move ho (fun k hk => set5_far (by simp [Value.ownBlock] at hk; omega))) (by omega)
end Go.Proofs.Ytiehfaiadhhndaa
