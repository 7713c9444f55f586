/-
  ImapGives: what the two maps of the law hold, plain.
-/
import Derived.Test.YtakoajdcdoigdaaLaw10
import Derived.Maps.OwnSet
import Derived.Maps.OwnOps
namespace Go.Proofs.Ytakoajdcdoigdaa
open Go.RowKit Go.Maps Go.ChangeShapes Go.WideShapes
set_option linter.unusedVariables false
set_option linter.unusedSimpArgs false
def KL (x : Int) : Lit := .int .i64 x
def U32 (n : Nat) : DataW Unit := .lit (.int .u32 (n : Int))
theorem KL_ne {x y : Int} (h : x ≠ y) : KL x ≠ KL y := fun e => h (by injection e)
theorem KL_key (x : Int) : WideAt.IsKeyLit (KL x) := trivial
/-- Is a number used? -/
def usedAt (L : List Sl) (x : Int) : Bool := match (if 1 ≤ x then L[(x - 1).toNat]? else none) with | some s => !(s.kind == 0) | none => false
theorem usedAt_at {L : List Sl} {i : Nat} {s : Sl} (h : L[i]? = some s) : usedAt L ((i : Int) + 1) = !(s.kind == 0) := by
  unfold usedAt
  rw [if_pos (by omega), show ((i : Int) + 1 - 1).toNat = i by omega, h]
theorem usedAt_no {L : List Sl} {x : Int} (h : x < 1 ∨ (L.length : Int) < x) : usedAt L x = false := by
  unfold usedAt
  split
  · rename_i s hs
    split at hs
    · rw [List.getElem?_eq_none (by omega)] at hs; cases hs
    · cases hs
  · rfl
theorem usedAt_set {L : List Sl} {i : Nat} {s x : Sl} (h : L[i]? = some s) (y : Int) : usedAt (L.set i x) y = if y = (i : Int) + 1 then !(x.kind == 0) else usedAt L y := by
  have hlt : i < L.length := (List.getElem?_eq_some_iff.1 h).1
  by_cases hy : y = (i : Int) + 1
  · subst hy
    rw [if_pos rfl, usedAt_at (s := x) (by rw [List.getElem?_set_self hlt])]
  · rw [if_neg hy]
    unfold usedAt
    by_cases h1 : 1 ≤ y
    · rw [if_pos h1, if_pos h1, List.getElem?_set_ne (by omega)]
    · rw [if_neg h1, if_neg h1]
def cnt (L : List Sl) : Nat := L.countP (fun s => !(s.kind == 0))
theorem cnt_set {L : List Sl} {i : Nat} {s x : Sl} (h : L[i]? = some s) : cnt (L.set i x) + (if s.kind == 0 then 0 else 1) = cnt L + (if x.kind == 0 then 0 else 1) := by
  induction L generalizing i with
  | nil => simp at h
  | cons y L ih =>
    cases i with
    | zero =>
      obtain rfl : y = s := by simpa using h
      simp only [List.set_cons_zero, cnt, List.countP_cons]
      cases x.kind == 0 <;> cases y.kind == 0 <;> simp <;> omega
    | succ i =>
      have := ih (i := i) (by simpa using h)
      simp only [List.set_cons_succ, cnt, List.countP_cons] at this ⊢
      omega
theorem usedN_cnt (L : List Sl) : (usedN L L.length).length = cnt L := by
  have key : ∀ j, j ≤ L.length → (usedN L j).length = cnt (L.take j) := by
    intro j
    induction j with
    | zero => intro _; rfl
    | succ j ih =>
      intro hj
      have e : L.take (j + 1) = L.take j ++ [L[j]] := by rw [List.take_succ_eq_append_getElem (by omega)]
      have hd : L.getD j sl0 = L[j] := by rw [List.getD_eq_getElem?_getD, List.getElem?_eq_getElem (by omega)]; rfl
      have hi := ih (by omega)
      unfold cnt at hi ⊢
      rw [e, List.countP_append, ← hi]
      simp only [usedN, hd, List.countP_singleton]
      cases L[j].kind == 0 <;> simp
  have := key L.length (Nat.le_refl _)
  rwa [List.take_length] at this
structure OkH (D : DataW Unit) (L : List Sl) : Prop where
  tidy : Tidy D
  has : ∀ x : Int, Maps.has D (KL x) = usedAt L x
  size : Maps.size D = cnt L
structure OkL (D : DataW Unit) (L : List Sl) : Prop where
  map : IsMap D
  at_ : ∀ (i : Nat) (s : Sl), L[i]? = some s → D.atKey (KL ((i : Int) + 1)) (U32 0) = U32 s.ver
theorem okH_start (n : Nat) : OkH (.map []) (List.replicate n sl0) := by
  refine ⟨tidy_empty, fun x => ?_, ?_⟩
  · have h1 : Maps.has (.map [] : DataW Unit) (KL x) = false := rfl
    rw [h1]
    by_cases hx : x < 1 ∨ ((List.replicate n sl0).length : Int) < x
    · rw [usedAt_no hx]
    · obtain ⟨i, rfl⟩ : ∃ i : Nat, x = (i : Int) + 1 := ⟨(x - 1).toNat, by omega⟩
      rw [usedAt_at (s := sl0) (by rw [List.getElem?_replicate, if_pos (by simp at hx; omega)])]; rfl
  · show 0 = cnt (List.replicate n sl0)
    unfold cnt
    rw [List.countP_replicate]; rfl
theorem okL_start (n : Nat) : OkL (.map []) (List.replicate n sl0) := ⟨isMap_empty, fun i s h => by
  rw [List.getElem?_replicate] at h
  split at h
  · cases h; rfl
  · cases h⟩
theorem okH_free {D : DataW Unit} {L : List Sl} {i : Nat} {s : Sl} (h : OkH D L) (hs : L[i]? = some s) (hk : s.kind ≠ 0) : OkH (D.del (KL ((i : Int) + 1))) (L.set i ⟨0, s.ver, 0, 0⟩) := by
  have hk0 : (s.kind == 0) = false := by simpa using hk
  have hh : Maps.has D (KL ((i : Int) + 1)) = true := by rw [h.has, usedAt_at hs, hk0]; rfl
  refine ⟨h.tidy.del _, fun x => ?_, ?_⟩
  · rw [usedAt_set hs]
    by_cases hx : x = (i : Int) + 1
    · subst hx; rw [if_pos rfl, has_del_same]; rfl
    · rw [if_neg hx, has_del_other (KL_ne hx), h.has]
  · have h1 := size_del (k := KL ((i : Int) + 1)) h.tidy
    rw [hh, if_pos rfl, h.size] at h1
    have h2 := cnt_set (x := ⟨0, s.ver, 0, 0⟩) hs
    rw [hk0] at h2
    simp at h2
    omega
theorem okL_free {D : DataW Unit} {L : List Sl} {i : Nat} {s : Sl} (h : OkL D L) (hs : L[i]? = some s) : OkL D (L.set i ⟨0, s.ver, 0, 0⟩) := ⟨h.map, fun j x hx => by
  have hlt : i < L.length := (List.getElem?_eq_some_iff.1 hs).1
  by_cases hj : i = j
  · subst hj
    rw [List.getElem?_set_self hlt] at hx
    cases hx
    exact h.at_ i s hs
  · rw [List.getElem?_set_ne hj] at hx
    exact h.at_ j x hx⟩
theorem okH_give {D : DataW Unit} {L : List Sl} {i : Nat} {s : Sl} (h : OkH D L) (hs : L[i]? = some s) (hk : s.kind = 0) (v : Nat) (kind : Int) (hkind : kind ≠ 0) (d : DataW Unit) : OkH (D.put (KL ((i : Int) + 1)) d) (L.set i ⟨0, v, 0, kind⟩) := by
  have hk0 : (s.kind == 0) = true := by simpa using hk
  have hk1 : (kind == 0) = false := by simpa using hkind
  have hh : Maps.has D (KL ((i : Int) + 1)) = false := by rw [h.has, usedAt_at hs, hk0]; rfl
  refine ⟨h.tidy.put (KL_key _) _, fun x => ?_, ?_⟩
  · rw [usedAt_set hs]
    by_cases hx : x = (i : Int) + 1
    · subst hx; rw [if_pos rfl, has_put_same h.tidy.isMap (KL_key _)]; show true = !(kind == 0); rw [hk1]; rfl
    · rw [if_neg hx, has_put_other (KL_ne hx), h.has]
  · rw [size_put h.tidy, hh, h.size]
    have h2 := cnt_set (x := ⟨0, v, 0, kind⟩) hs
    rw [hk0, show (({ at_ := 0, ver := v, links := 0, kind := kind } : Sl).kind == 0) = false from hk1] at h2
    simp at h2 ⊢
    omega
theorem okL_give {D : DataW Unit} {L : List Sl} {i : Nat} {s : Sl} (h : OkL D L) (hs : L[i]? = some s) (v : Nat) (kind : Int) : OkL (D.put (KL ((i : Int) + 1)) (U32 v)) (L.set i ⟨0, v, 0, kind⟩) := ⟨h.map.put _ _, fun j x hx => by
  have hlt : i < L.length := (List.getElem?_eq_some_iff.1 hs).1
  by_cases hj : i = j
  · subst hj
    rw [List.getElem?_set_self hlt] at hx
    cases hx
    exact atKey_put_same h.map (KL_key _) _ _
  · rw [List.getElem?_set_ne hj] at hx
    rw [atKey_put_other (KL_ne (by omega))]
    exact h.at_ j x hx⟩
theorem okH_full {D : DataW Unit} {L : List Sl} (h : OkH D L) (hn : mFree L = none) : Maps.size D = L.length := by
  rw [h.size]
  unfold cnt
  rw [List.countP_eq_length]
  intro s hs
  simpa using mFree_none hn s hs
theorem okH_below {D : DataW Unit} {L : List Sl} {i : Nat} (h : OkH D L) (hf : mFree L = some i) (k : Nat) (hk : k < i) : Maps.has D (KL ((k : Int) + 1)) = true := by
  obtain ⟨s, hs, _, hb⟩ := mFree_some hf
  have hlt : i < L.length := (List.getElem?_eq_some_iff.1 hs).1
  have hk2 : L[k]? = some L[k] := List.getElem?_eq_getElem (by omega)
  have := hb k hk _ hk2
  rw [h.has, usedAt_at hk2]
  simpa using this
/-! ### such a map in memory -/
def HMap (w : World) (b n : Nat) (D : DataW Unit) : Prop := w.ownsMap Try.prog 3 (plainElem Try.prog 27) b n D
theorem HMap.lt {w : World} {b n : Nat} {D : DataW Unit} (h : HMap w b n D) : b < w.heap.size := World.ownsMap.lt h
theorem HMap.move {w w' : World} {b n : Nat} {D : DataW Unit} (h : HMap w b n D) (hb : w'.heap[b]? = w.heap[b]?) : HMap w' b n D := by
  obtain ⟨es, clock, h1, h2⟩ := h
  exact ⟨es, clock, hb.trans h1, h2⟩
theorem HMap.keep {F : Nat → Prop} {w w' : World} {b n : Nat} {D : DataW Unit} (h : HMap w b n D) (hk : Keep F w w') (hF : ¬ F b) : HMap w' b n D := h.move (hk.block b h.lt hF)
theorem HMap.below {w w' : World} {b n : Nat} {D : DataW Unit} (h : HMap w b n D) (hb : Below w.heap.size w w') : HMap w' b n D := h.move (hb.block b h.lt)
theorem zeroU32 (w : World) : (zeroValue 27).run Try.prog w = .ok (.int .u32 0) w := by kernel_rfl
theorem intKeyed : Keyed Try.prog 3 := int_keyed Try.underlying3
theorem key_wf {x : Int} (h1 : -9223372036854775808 ≤ x) (h2 : x ≤ 9223372036854775807) : keyOf Try.prog 3 (.int .i64 x) = some (KL x) := keyOf_int_mk Try.underlying3 (by simp [Lit.wf, IntKind.min, IntKind.max, IntKind.signed, IntKind.bits]; omega)
theorem u32_wf {n : Nat} (h : n < 4294967296) : (Lit.int .u32 (n : Int)).wf = true := by simp [Lit.wf, IntKind.min, IntKind.max, IntKind.signed, IntKind.bits]; omega
theorem HMap.look_ok {w : World} {b n : Nat} {D : DataW Unit} (h : HMap w b n D) (x : Int) (h1 : -9223372036854775808 ≤ x) (h2 : x ≤ 9223372036854775807) : ∃ c : Int, (Instr.lookup 26 (.map (some b)) (.int .i64 x) true).run Try.prog w = .ok (.tuple #[.int .u32 c, .bool (Maps.has D (KL x))]) w := by
  obtain ⟨v, ps, hrun, hv⟩ := World.ownsMap.look_ok h intKeyed Try.underlying26 (zeroU32 w) (plainElem_int (H := Unit) Try.underlying27 (by decide)) (key_wf h1 h2)
  obtain ⟨c, rfl, _, _⟩ := plainElem_int_inv Try.underlying27 hv
  exact ⟨c, hrun⟩
theorem HMap.look {w : World} {b n : Nat} {D : DataW Unit} (h : HMap w b n D) (x : Int) (h1 : -9223372036854775808 ≤ x) (h2 : x ≤ 9223372036854775807) (v : Nat) (hv : D.atKey (KL x) (U32 0) = U32 v) : (Instr.lookup 26 (.map (some b)) (.int .i64 x) false).run Try.prog w = .ok (.int .u32 (v : Int)) w := by
  obtain ⟨c, hrun, hat, _⟩ := World.ownsMap.lookup_int h intKeyed Try.underlying26 Try.underlying27 (zeroU32 w) (key_wf h1 h2)
  have : U32 v = .lit (.int .u32 c) := by rw [← hv]; exact hat
  simp only [U32, DataW.lit.injEq, Lit.int.injEq, true_and] at this
  rw [hrun, ← this]
end Go.Proofs.Ytakoajdcdoigdaa
