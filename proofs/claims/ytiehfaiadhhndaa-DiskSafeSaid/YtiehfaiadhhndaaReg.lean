/-
  A region that draws its order, some of whose operations are passed over because their guard says no: they are taken first, all at once.
-/
import Derived.WalkKit
import Derived.Deep.RegionHeld3
namespace Go.Proofs.Ytiehfaiadhhndaa
open Go.RowKit
set_option linter.unusedVariables false
section
variable {P : Program} {ops : Array Oper} {Q : Exit → Act → World → Prop} {md : Region.Mode} {S : World → Prop}
def knownOf (tmps : Array Value) (d : Nat) : Option Bool :=
  match tmps[d]? with
  | some (.bool b) => some b
  | _ => none
def KnownAll (a : Act) : List (Nat × Option Bool) → Prop
  | [] => True
  | x :: r => knownOf a.tmps x.1 = x.2 ∧ KnownAll a r
def lookIn : List (Nat × Option Bool) → Nat → Option (Option Bool)
  | [], _ => none
  | x :: r, d => if x.1 = d then some x.2 else lookIn r d
theorem KnownAll.look {a : Act} : ∀ {kn : List (Nat × Option Bool)}, KnownAll a kn → ∀ d b, lookIn kn d = some b → knownOf a.tmps d = b
  | [], _, d, b, h => by cases h
  | x :: r, h, d, b, hl => by
    unfold lookIn at hl
    split at hl
    · rename_i e; subst e; cases hl; exact h.1
    · exact KnownAll.look h.2 d b hl
/-- The run over those that are passed over: what has come up behind it. -/
def offRun (md : Region.Mode) (ops : Array Oper) : List Nat → List (Option Nat) → List (Nat × Option Bool) → Array Bool → Option (Array Bool)
  | [], [], _, l => some l
  | i :: r, d :: ds, kn, l =>
    match ops[i]? with
    | none => none
    | some o =>
      match o.guard with
      | none => none
      | some (j, want) =>
        match ((ops[j]?).bind (·.dst)).bind (lookIn kn) with
        | none => none
        | some ob =>
          if ob != some want && o.dst == d && Region.free md ops l i && (Region.ready md ops l).contains i then
            offRun md ops r ds (match d with | some d => (d, none) :: kn | none => kn) (l.setIfInBounds i true)
          else none
  | _, _, _, _ => none
def putOff : List (Option Nat) → Act → Act
  | [], a => a
  | d :: ds, a => putOff ds (a.put d undef)
theorem knownOf_put (a : Act) (d : Nat) : knownOf (a.put (some d) undef).tmps d = none := by
  unfold knownOf Act.put
  simp only [Array.getElem?_setIfInBounds]
  by_cases h : d < a.tmps.size
  · simp [h, undef]
  · simp [h]
theorem knownOf_put_ne (a : Act) (d d' : Nat) (h : d ≠ d') : knownOf (a.put (some d) undef).tmps d' = knownOf a.tmps d' := by
  unfold knownOf Act.put
  simp only [Array.getElem?_setIfInBounds]
  rw [if_neg h]
theorem KnownAll.of_look {a : Act} {kn : List (Nat × Option Bool)} (h : ∀ d b, lookIn kn d = some b → knownOf a.tmps d = b) : (∀ d b, lookIn kn d = some b → knownOf a.tmps d = b) := h
theorem wpAnyH_off (hs : Region.noSelect ops = true) (hQ : ∀ (c : _) (a : Act) (d : Option Tmp) (v : Value) (w : World), Q (.panic c) (a.put d v) w → Q (.panic c) a w) {w : World} (hS : S w) :
    ∀ (is : List Nat) (ds : List (Option Nat)) (kn : List (Nat × Option Bool)) (l l' : Array Bool) (a : Act) (fuel : Nat), offRun md ops is ds kn l = some l' → (∀ d b, lookIn kn d = some b → knownOf a.tmps d = b) →
      wpAnyH P md ops Q S fuel l' (putOff ds a) w → wpAnyH P md ops Q S (fuel + is.length) l a w
  | [], ds, kn, l, l', a, fuel, hr, hk, h => by
    cases ds with
    | nil => simp only [offRun, Option.some.injEq] at hr; subst hr; exact h
    | cons d ds => simp [offRun] at hr
  | i :: r, ds, kn, l, l', a, fuel, hr, hk, h => by
    cases ds with
    | nil => simp [offRun] at hr
    | cons d ds =>
      unfold offRun at hr
      split at hr
      · cases hr
      · rename_i o ho
        split at hr
        · cases hr
        · rename_i j want hg
          split at hr
          · cases hr
          · rename_i ob hob
            split at hr
            · rename_i hc
              simp only [Bool.and_eq_true, bne_iff_ne, ne_eq, beq_iff_eq] at hc
              obtain ⟨⟨⟨hne, hd⟩, hf⟩, hrd⟩ := hc
              have hw : Region.wanted o (yielded ops a.tmps) = false := by
                unfold Region.wanted
                rw [hg]
                simp only []
                have hy : yielded ops a.tmps j = ob := by
                  unfold yielded
                  cases hjd : (ops[j]?).bind (·.dst) with
                  | none => rw [hjd] at hob; cases hob
                  | some dj =>
                    rw [hjd] at hob
                    have := hk dj ob hob
                    unfold knownOf at this
                    simp only [Option.bind_some]
                    rw [← this]
                    cases hv : a.tmps[dj]? with
                    | none => rfl
                    | some v => cases v <;> rfl
                rw [hy]
                simp only [beq_eq_false_iff_ne, ne_eq]
                exact hne
              have hk' : ∀ d' b, lookIn (match d with | some d => (d, none) :: kn | none => kn) d' = some b → knownOf (a.put d undef).tmps d' = b := by
                intro d' b hl
                cases d with
                | none => exact hk d' b hl
                | some d =>
                  simp only [lookIn] at hl
                  split at hl
                  · rename_i e; subst e; cases hl; exact knownOf_put a d
                  · rename_i e; rw [knownOf_put_ne a d d' e]; exact hk d' b hl
              have ih := wpAnyH_off hs hQ hS r ds _ _ l' (a.put d undef) fuel hr hk' h
              subst hd
              exact wpAnyH_take (i := i) (oi := o) (v := undef) ho hs hf hrd (fun c a w => hQ c a _ _ w) (Or.inr ⟨hw, rfl⟩) hS ih
            · cases hr
theorem off_ (hs : Region.noSelect ops = true) (hQ : ∀ (c : _) (a : Act) (d : Option Tmp) (v : Value) (w : World), Q (.panic c) (a.put d v) w → Q (.panic c) a w) {w : World} (hS : S w)
    (is : List Nat) (ds : List (Option Nat)) (kn : List (Nat × Option Bool)) {l : Array Bool} (l' : Array Bool) {a : Act} (fuel : Nat) {n : Nat} (hn : fuel + is.length = n) (hr : offRun md ops is ds kn l = some l') (hk : KnownAll a kn)
    {a' : Act} (ha : putOff ds a = a') (h : wpAnyH P md ops Q S fuel l' a' w) : wpAnyH P md ops Q S n l a w := by
  subst hn; subst ha
  exact wpAnyH_off hs hQ hS is ds kn l l' a fuel hr hk.look h
/-- One that may be taken first; what it writes, and what has come up behind it, written out. -/
theorem take1_ {i : Nat} (N : Option Tmp) {oi : Oper} {v : Value} {fuel : Nat} {l : Array Bool} (l' : Array Bool) {a : Act} {w : World} (hi : ops[i]? = some oi) (hN : oi.dst = N)
    (hc : (Region.noSelect ops && Region.free md ops l i && (Region.ready md ops l).contains i && (l.setIfInBounds i true == l')) = true)
    (hQ : ∀ c a w, Q (.panic c) (a.put N v) w → Q (.panic c) a w) (hy : YieldsIf P ops S oi v a) (hS : S w) {a' : Act} (ha : a.put N v = a')
    (h : wpAnyH P md ops Q S fuel l' a' w) : wpAnyH P md ops Q S (fuel + 1) l a w := by
  simp only [Bool.and_eq_true, beq_iff_eq] at hc
  obtain ⟨⟨⟨h1, h2⟩, h3⟩, h4⟩ := hc
  subst h4; subst ha; subst hN
  exact wpAnyH_take hi h1 h2 h3 hQ hy hS h
/-- The only one that may come up, carried out. -/
theorem loud1_ {i : Nat} (N : Option Tmp) {oi : Oper} {fuel : Nat} {l : Array Bool} (l' : Array Bool) {a : Act} {w : World} (hi : ops[i]? = some oi) (hN : oi.dst = N)
    (hc : ((Region.ready md ops l == [i]) && (l.setIfInBounds i true == l')) = true)
    (h : ∀ K' : Act → World → Prop, Shut (∀ a w, S w → (S w → wpAnyH P md ops Q S fuel l' a w) → K' a w) → if Region.wanted oi (yielded ops a.tmps) = true then Oper.wp P oi a w K' Q else K' (a.put N undef) w) :
    wpAnyH P md ops Q S (fuel + 1) l a w := by
  simp only [Bool.and_eq_true, beq_iff_eq] at hc
  obtain ⟨h1, h2⟩ := hc
  subst h2; subst hN
  exact wpAnyH_ready h1 (by simp) (AllReadyH.cons hi h AllReadyH.nil)
end
end Go.Proofs.Ytiehfaiadhhndaa
