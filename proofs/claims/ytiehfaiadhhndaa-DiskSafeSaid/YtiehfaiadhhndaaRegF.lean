/-
  A region that draws its order, whose last operation (it waits for all that read what it writes) need not keep what the others keep.
-/
import Derived.WalkKit
import Derived.Deep.RegionHeld3
namespace Go.Proofs.Ytiehfaiadhhndaa
open Go.RowKit
set_option linter.unusedVariables false
section
variable {P : Program} {ops : Array Oper} {Q : Exit → Act → World → Prop} {md : Region.Mode} {S : World → Prop} {f : Nat}
/-- Whatever order is picked from here on; and S holds behind each operation but number f. -/
def wpAnyF (P : Program) (md : Region.Mode) (ops : Array Oper) (Q : Exit → Act → World → Prop) (S : World → Prop) (f : Nat) : Nat → Array Bool → Act → World → Prop
  | 0, listed, a, w => Region.ready md ops listed = [] ∧ Q .normal a w
  | fuel + 1, listed, a, w =>
    (Region.ready md ops listed = [] → Q .normal a w) ∧
    ∀ i ∈ Region.ready md ops listed, wpOp P ops Q i (fun a' w' => (i ≠ f → S w') ∧ wpAnyF P md ops Q S f fuel (listed.setIfInBounds i true) a' w') a w
theorem wpAny_of_F : ∀ (fuel : Nat) (listed : Array Bool) (a : Act) (w : World), wpAnyF P md ops Q S f fuel listed a w → wpAny P md ops Q fuel listed a w
  | 0, _, _, _, h => h
  | fuel + 1, _, _, _, h => ⟨h.1, fun i hi => wpOp_mono (fun a' w' h' => wpAny_of_F fuel _ a' w' h'.2) (h.2 i hi)⟩
theorem wpAnyF_first {i : Nat} {oi : Oper} {v : Value} (hi : ops[i]? = some oi) (hsel : ∀ (j : Nat) (o : Oper) cs b, ops[j]? = some o → o.op ≠ .select cs b)
    (hQ : ∀ c a w, Q (.panic c) (a.put oi.dst v) w → Q (.panic c) a w) (hif : i ≠ f) (hfi : ∀ o, ops[f]? = some o → ∃ e ∈ o.after, Region.binds md e = true ∧ e.on = i) :
    ∀ (fuel : Nat) (listed : Array Bool) (a : Act) (w : World),
      (∀ j oj, ops[j]? = some oj → j ≠ i → listed.getD j true = false → (∀ e ∈ oj.after, Region.binds md e = true → e.on ≠ i) → oi.apart ops oj = true) →
      i ∈ Region.ready md ops listed → YieldsIf P ops S oi v a → S w →
      wpAnyF P md ops Q S f fuel (listed.setIfInBounds i true) (a.put oi.dst v) w → wpAnyF P md ops Q S f (fuel + 1) listed a w := by
  intro fuel
  induction fuel with
  | zero =>
    intro listed a w _ hr hy hS H
    refine ⟨fun h => (by rw [h] at hr; cases hr), fun j hj => ?_⟩
    by_cases hji : j = i
    · subst hji; exact hy.wpOp hi hS ⟨fun _ => hS, H⟩
    · have := ready_mono hj hji
      rw [H.1] at this
      cases this
  | succ fuel ih =>
    intro listed a w hfree hr hy hS H
    refine ⟨fun h => (by rw [h] at hr; cases hr), fun j hj => ?_⟩
    by_cases hji : j = i
    · subst hji; exact hy.wpOp hi hS ⟨fun _ => hS, H⟩
    · have h1 := H.2 j (ready_mono hj hji)
      obtain ⟨hjun, oj, hoj, hall⟩ := mem_ready.1 hj
      have hnot : ∀ e ∈ oj.after, Region.binds md e = true → e.on ≠ i := fun e he hb heq => by
        have h1 := hall e he hb
        have h0 := (mem_ready.1 hr).1
        rw [heq] at h1
        rcases Nat.lt_or_ge i listed.size with h' | h'
        · simp [h'] at h0 h1; rw [h0] at h1; cases h1
        · simp [Array.getElem?_eq_none h'] at h1
      have hjf : j ≠ f := fun e => by
        subst e
        obtain ⟨ed, h1, h2, h3⟩ := hfi oj hoj
        exact hnot ed h1 h2 h3
      have h2 := wpOp_putIf hoj (hfree j oj hoj hji hjun hnot) (fun cs b => hsel i oi cs b hi) (fun cs b => hsel j oj cs b hoj) hQ hy h1
      have hfree' : ∀ k ok, ops[k]? = some ok → k ≠ i → (listed.setIfInBounds j true).getD k true = false →
          (∀ e ∈ ok.after, Region.binds md e = true → e.on ≠ i) → oi.apart ops ok = true := fun k ok hk hki hun hno => by
        refine hfree k ok hk hki ?_ hno
        by_cases hjk : j = k
        · subst hjk; exact hjun
        · rw [getD_set_ne true hjk] at hun; exact hun
      refine wpOp_mono (fun a' w' h3 => ⟨h3.2.1, ih (listed.setIfInBounds j true) a' w' hfree' (ready_mono hr (Ne.symm hji)) h3.1 (h3.2.1 hjf) ?_⟩) h2
      rw [Array.setIfInBounds_comm _ _ hji]
      exact h3.2.2
theorem wpAnyF_done {listed : Array Bool} {a : Act} {w : World} (hr : Region.ready md ops listed = []) (h : Q .normal a w) : ∀ fuel, wpAnyF P md ops Q S f fuel listed a w
  | 0 => ⟨hr, h⟩
  | _ + 1 => ⟨fun _ => h, by rw [hr]; simp⟩
theorem wp_region_F {id : Nat} {a : Act} {w : World} (f : Nat) (hm : P.follows .mixedOrders = true) (hS : S w.drew)
    (h : S w.drew → wpAnyF P .any ops Q S f ops.size (Array.replicate ops.size false) a w.drew) : (Code.region id ops true).wp P Q a w :=
  wp_region_any hm (wpAny_of_F _ _ _ _ (h hS))
/-- One that may be taken first; what it writes, and what has come up behind it, written out. -/
theorem take1F {i : Nat} (N : Option Tmp) {oi : Oper} {v : Value} {fuel : Nat} {l : Array Bool} (l' : Array Bool) {a : Act} {w : World} (hi : ops[i]? = some oi) (hN : oi.dst = N)
    (hc : (Region.noSelect ops && Region.free md ops l i && (Region.ready md ops l).contains i && (l.setIfInBounds i true == l') && decide (i ≠ f) && (match ops[f]? with | some o => o.after.toList.any (fun e => Region.binds md e && e.on == i) | none => true)) = true)
    (hQ : ∀ c a w, Q (.panic c) (a.put N v) w → Q (.panic c) a w) (hy : YieldsIf P ops S oi v a) (hS : S w) {a' : Act} (ha : a.put N v = a')
    (h : wpAnyF P md ops Q S f fuel l' a' w) : wpAnyF P md ops Q S f (fuel + 1) l a w := by
  simp only [Bool.and_eq_true, beq_iff_eq, decide_eq_true_eq] at hc
  obtain ⟨⟨⟨⟨⟨h1, h2⟩, h3⟩, h4⟩, h5⟩, h6⟩ := hc
  subst h4; subst ha; subst hN
  refine wpAnyF_first hi (Region.noSelect_spec h1) hQ h5 (fun o ho => ?_) fuel l a w (Region.free_spec hi h2) (by simpa using h3) hy hS h
  rw [ho] at h6
  simp only [List.any_eq_true, Bool.and_eq_true, beq_iff_eq] at h6
  obtain ⟨e, he, hb, hon⟩ := h6
  exact ⟨e, by simpa using he, hb, hon⟩
/-- The only one that may come up, carried out. -/
theorem loud1F {i : Nat} (N : Option Tmp) {oi : Oper} {fuel : Nat} {l : Array Bool} (l' : Array Bool) {a : Act} {w : World} (hi : ops[i]? = some oi) (hN : oi.dst = N)
    (hc : ((Region.ready md ops l == [i]) && (l.setIfInBounds i true == l')) = true)
    (h : ∀ K' : Act → World → Prop, Shut (∀ a w, S w → (S w → wpAnyF P md ops Q S f fuel l' a w) → K' a w) → if Region.wanted oi (yielded ops a.tmps) = true then Oper.wp P oi a w K' Q else K' (a.put N undef) w) :
    wpAnyF P md ops Q S f (fuel + 1) l a w := by
  simp only [Bool.and_eq_true, beq_iff_eq] at hc
  obtain ⟨h1, h2⟩ := hc
  subst h2; subst hN
  refine ⟨fun h0 => absurd (h1 ▸ h0) (by simp), fun j hj => ?_⟩
  rw [h1] at hj
  obtain rfl : j = i := by simpa using hj
  exact wpOp_step hi (fun K' hK => h K' (fun a w hS hW => hK a w ⟨fun _ => hS, hW hS⟩))
/-- One of two may come up: both are carried out. -/
theorem fork2F {i j : Nat} (N M : Option Tmp) {oi oj : Oper} {fuel : Nat} {l : Array Bool} (l' l'' : Array Bool) {a : Act} {w : World} (hi : ops[i]? = some oi) (hj : ops[j]? = some oj) (hN : oi.dst = N) (hM : oj.dst = M)
    (hc : ((Region.ready md ops l == [i, j]) && (l.setIfInBounds i true == l') && (l.setIfInBounds j true == l'')) = true)
    (h1 : ∀ K' : Act → World → Prop, Shut (∀ a w, S w → (S w → wpAnyF P md ops Q S f fuel l' a w) → K' a w) → if Region.wanted oi (yielded ops a.tmps) = true then Oper.wp P oi a w K' Q else K' (a.put N undef) w)
    (h2 : ∀ K' : Act → World → Prop, Shut (∀ a w, S w → (S w → wpAnyF P md ops Q S f fuel l'' a w) → K' a w) → if Region.wanted oj (yielded ops a.tmps) = true then Oper.wp P oj a w K' Q else K' (a.put M undef) w) :
    wpAnyF P md ops Q S f (fuel + 1) l a w := by
  simp only [Bool.and_eq_true, beq_iff_eq] at hc
  obtain ⟨⟨h3, h4⟩, h5⟩ := hc
  subst h4; subst h5; subst hN; subst hM
  refine ⟨fun h0 => absurd (h3 ▸ h0) (by simp), fun k hk => ?_⟩
  rw [h3] at hk
  rcases List.mem_cons.1 hk with rfl | hk
  · exact wpOp_step hi (fun K' hK => h1 K' (fun a w hS hW => hK a w ⟨fun _ => hS, hW hS⟩))
  · obtain rfl : k = j := by simpa using hk
    exact wpOp_step hj (fun K' hK => h2 K' (fun a w hS hW => hK a w ⟨fun _ => hS, hW hS⟩))
/-- The last one. -/
theorem last1F (N : Option Tmp) {oi : Oper} {fuel : Nat} {l : Array Bool} (l' : Array Bool) {a : Act} {w : World} (hi : ops[f]? = some oi) (hN : oi.dst = N)
    (hc : ((Region.ready md ops l == [f]) && (l.setIfInBounds f true == l')) = true)
    (h : ∀ K' : Act → World → Prop, Shut (∀ a w, wpAnyF P md ops Q S f fuel l' a w → K' a w) → if Region.wanted oi (yielded ops a.tmps) = true then Oper.wp P oi a w K' Q else K' (a.put N undef) w) :
    wpAnyF P md ops Q S f (fuel + 1) l a w := by
  simp only [Bool.and_eq_true, beq_iff_eq] at hc
  obtain ⟨h1, h2⟩ := hc
  subst h2; subst hN
  refine ⟨fun h0 => absurd (h1 ▸ h0) (by simp), fun j hj => ?_⟩
  rw [h1] at hj
  obtain rfl : j = f := by simpa using hj
  exact wpOp_step hi (fun K' hK => h K' (fun a w hW => hK a w ⟨fun h => absurd rfl h, hW⟩))
end
end Go.Proofs.Ytiehfaiadhhndaa
