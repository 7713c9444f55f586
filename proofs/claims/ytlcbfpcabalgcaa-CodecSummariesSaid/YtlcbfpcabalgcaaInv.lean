/-
  A region that draws its order, by what each of its operations leaves: one goal for each operation, whatever order is drawn.
-/
import Derived.WalkKit
import Derived.Deep.RegionHeld3
namespace Go.Proofs.Ytlcbfpcabalgcaa
open Go.RowKit
set_option linter.unusedVariables false
section
variable {P : Program} {ops : Array Oper} {Q : Exit → Act → World → Prop} {md : Region.Mode}
/-- Another value at one number. -/
def upd (σ : Nat → Value) (i : Nat) (v : Value) : Nat → Value := fun j => if j = i then v else σ j
theorem upd_same (σ : Nat → Value) (i : Nat) (v : Value) : upd σ i v i = v := by simp [upd]
theorem upd_other (σ : Nat → Value) (i j : Nat) (v : Value) (h : j ≠ i) : upd σ i v j = σ j := by simp [upd, h]
/-- Who writes a slot. -/
def whoOf (ops : Array Oper) (t : Nat) : Option Nat := (List.range ops.size).find? fun i => ((ops[i]?).bind (·.dst)) == some t
def directOf (md : Region.Mode) (ops : Array Oper) (i : Nat) : List Nat := (((ops[i]?).map fun o => (o.after.toList.filter (Region.binds md)).map (·.on)).getD [])
/-- All that stands ahead of one. -/
def aheadOf (md : Region.Mode) (ops : Array Oper) (i : Nat) : List Nat :=
  ((List.range i).reverse.foldl (fun s j => if s.contains j then s ++ (directOf md ops j).filter (fun k => !s.contains k) else s) (directOf md ops i))
/-- Those that may have come up already. -/
def stayOf (md : Region.Mode) (ops : Array Oper) (i : Nat) : List Nat := (List.range ops.size).filter fun j => j != i && !(aheadOf md ops j).contains i
/-- What is asked of a region's text. -/
def regOk (md : Region.Mode) (ops : Array Oper) (n : Nat) : Bool :=
  (List.range ops.size).all fun i => (match (ops[i]?).bind (·.dst) with | some d => whoOf ops d == some i && decide (d < n) | none => true) && (directOf md ops i).all (fun j => decide (j < i))
theorem regOk_dst {n : Nat} (h : regOk md ops n = true) {i d : Nat} (hd : (ops[i]?).bind (·.dst) = some d) : whoOf ops d = some i ∧ d < n := by
  have hi : i < ops.size := by
    rcases Nat.lt_or_ge i ops.size with hlt | hge
    · exact hlt
    · rw [Array.getElem?_eq_none hge] at hd; cases hd
  have := List.all_eq_true.1 h i (by simpa using hi)
  simp only [hd, Bool.and_eq_true, beq_iff_eq, decide_eq_true_eq] at this
  exact this.1
theorem regOk_back {n : Nat} (h : regOk md ops n = true) {i j : Nat} (hj : j ∈ directOf md ops i) : j < i := by
  have hi : i < ops.size := by
    rcases Nat.lt_or_ge i ops.size with hlt | hge
    · exact hlt
    · unfold directOf at hj; rw [Array.getElem?_eq_none hge] at hj; simp at hj
  have := List.all_eq_true.1 h i (by simpa using hi)
  simp only [Bool.and_eq_true] at this
  simpa using List.all_eq_true.1 this.2 j hj
def slotOf (md : Region.Mode) (ops : Array Oper) (a0 : Act) (σ : Nat → Value) (i t : Nat) : Option Value :=
  match whoOf ops t with | some j => if (aheadOf md ops i).contains j then some (σ j) else a0.tmps[t]? | none => a0.tmps[t]?
/-- The frame: what has come up has left its value. -/
structure Filled (ops : Array Oper) (a0 : Act) (l : Array Bool) (σ : Nat → Value) (a : Act) : Prop where
  defers : a.defers = a0.defers
  size : a.tmps.size = a0.tmps.size
  slot : ∀ t, a.tmps[t]? = match whoOf ops t with | some i => if l.getD i false = true then some (σ i) else a0.tmps[t]? | none => a0.tmps[t]?
theorem whoOf_spec {t i : Nat} (h : whoOf ops t = some i) : (ops[i]?).bind (·.dst) = some t := by
  have := List.find?_some h
  simpa using this
theorem whoOf_none {i : Nat} {o : Oper} (ho : ops[i]? = some o) (hd : o.dst = none) (t : Nat) : whoOf ops t ≠ some i := fun h => by
  have := whoOf_spec h
  rw [ho] at this
  simp [hd] at this
theorem Filled.put {a0 : Act} {l : Array Bool} {σ : Nat → Value} {a : Act} {n : Nat} (hn : a0.tmps.size = n) (hk : regOk md ops n = true) (h : Filled ops a0 l σ a) {i : Nat} {o : Oper} (ho : ops[i]? = some o) (hl : i < l.size) (v : Value) :
    Filled ops a0 (l.setIfInBounds i true) (upd σ i v) (a.put o.dst v) := by
  have hget : ∀ k, (l.setIfInBounds i true).getD k false = if k = i then true else l.getD k false := fun k => by
    simp only [Array.getD_eq_getD_getElem?, Array.getElem?_setIfInBounds]
    by_cases hk : k = i
    · subst hk; simp [hl]
    · rw [if_neg (fun e => hk e.symm), if_neg hk]
  cases hd : o.dst with
  | none =>
    refine ⟨h.defers, h.size, fun t => ?_⟩
    show a.tmps[t]? = _
    rw [h.slot t]
    cases hw : whoOf ops t with
    | none => rfl
    | some j =>
      have hne : j ≠ i := fun e => whoOf_none ho hd t (e ▸ hw)
      simp only [hget, if_neg hne, upd_other _ _ _ _ hne]
  | some d =>
    have hb : (ops[i]?).bind (·.dst) = some d := by rw [ho]; exact hd
    obtain ⟨hw0, hlt⟩ := regOk_dst hk hb
    refine ⟨h.defers, by show (a.tmps.setIfInBounds d v).size = _; simpa using h.size, fun t => ?_⟩
    show (a.tmps.setIfInBounds d v)[t]? = _
    rw [Array.getElem?_setIfInBounds]
    by_cases ht : d = t
    · subst ht
      rw [if_pos rfl, hw0, if_pos (by rw [h.size, hn]; exact hlt)]
      simp [hget, upd_same]
    · rw [if_neg ht, h.slot t]
      cases hw : whoOf ops t with
      | none => rfl
      | some j =>
        have hne : j ≠ i := fun e => by
          have := whoOf_spec hw
          rw [e, hb] at this
          exact ht (Option.some.inj this)
        simp only [hget, if_neg hne, upd_other _ _ _ _ hne]
def fillAll (ops : Array Oper) (σ : Nat → Value) (T : Array Value) : Nat → Array Value
  | 0 => T
  | k + 1 => match (ops[k]?).bind (·.dst) with | some d => (fillAll ops σ T k).setIfInBounds d (σ k) | none => fillAll ops σ T k
theorem fillAll_size (ops : Array Oper) (σ : Nat → Value) (T : Array Value) : ∀ k, (fillAll ops σ T k).size = T.size
  | 0 => rfl
  | k + 1 => by
    unfold fillAll
    split
    · simpa using fillAll_size ops σ T k
    · exact fillAll_size ops σ T k
theorem fillAll_get {a0 : Act} {n : Nat} (hn : a0.tmps.size = n) (hk : regOk md ops n = true) (σ : Nat → Value) (t : Nat) : ∀ k, k ≤ ops.size → (fillAll ops σ a0.tmps k)[t]? = match whoOf ops t with | some i => if i < k then some (σ i) else a0.tmps[t]? | none => a0.tmps[t]?
  | 0, _ => by
    unfold fillAll
    split <;> simp
  | k + 1, hle => by
    have ih := fillAll_get hn hk σ t k (by omega)
    unfold fillAll
    split
    · rename_i d hd
      obtain ⟨hw0, hlt⟩ := regOk_dst hk hd
      rw [Array.getElem?_setIfInBounds]
      by_cases ht : d = t
      · subst ht
        rw [if_pos rfl, hw0, if_pos (by rw [fillAll_size, hn]; exact hlt)]
        simp
      · rw [if_neg ht, ih]
        cases hw : whoOf ops t with
        | none => rfl
        | some j =>
          have hne : j ≠ k := fun e => by
            have := whoOf_spec hw
            rw [e, hd] at this
            exact ht (Option.some.inj this)
          simp only []
          by_cases hj : j < k
          · rw [if_pos hj, if_pos (by omega)]
          · rw [if_neg hj, if_neg (by omega)]
    · rename_i hd
      rw [ih]
      cases hw : whoOf ops t with
      | none => rfl
      | some j =>
        have hne : j ≠ k := fun e => by
          have := whoOf_spec hw
          rw [e, hd] at this
          cases this
        simp only []
        by_cases hj : j < k
        · rw [if_pos hj, if_pos (by omega)]
        · rw [if_neg hj, if_neg (by omega)]
/-- All of a list of facts. -/
def AllF (F : Nat → (Nat → Value) → World → Prop) (σ : Nat → Value) (w : World) : List Nat → Prop
  | [] => True
  | i :: r => F i σ w ∧ AllF F σ w r
theorem AllF.of {F : Nat → (Nat → Value) → World → Prop} {σ : Nat → Value} {w : World} : ∀ {is : List Nat}, (∀ i ∈ is, F i σ w) → AllF F σ w is
  | [], _ => trivial
  | i :: r, h => ⟨h i (by simp), AllF.of fun j hj => h j (by simp [hj])⟩
/-- The slots that are looked at. -/
def AllSlots (md : Region.Mode) (ops : Array Oper) (a0 a : Act) (σ : Nat → Value) (i : Nat) : List Nat → Prop
  | [] => True
  | t :: r => a.tmps[t]? = slotOf md ops a0 σ i t ∧ AllSlots md ops a0 a σ i r
theorem AllSlots.of {a0 a : Act} {σ : Nat → Value} {i : Nat} : ∀ {ts : List Nat}, (∀ t ∈ ts, a.tmps[t]? = slotOf md ops a0 σ i t) → AllSlots md ops a0 a σ i ts
  | [], _ => trivial
  | t :: r, h => ⟨h t (by simp), AllSlots.of fun u hu => h u (by simp [hu])⟩
/-- What is to be shown of one operation. -/
def StepOf (P : Program) (ops : Array Oper) (Q : Exit → Act → World → Prop) (md : Region.Mode) (a0 : Act) (S : World → Prop) (F : Nat → (Nat → Value) → World → Prop) (i : Nat) : Prop :=
  ∀ (σ : Nat → Value) (a : Act) (w : World), S w → AllF F σ w (aheadOf md ops i) → (σ i = undef ∧ ∀ j, F j σ w ∨ σ j = undef) → AllSlots md ops a0 a σ i (((ops[i]?).map (fun o => (o.looksAt ops).filter fun t => match whoOf ops t with | some j => (aheadOf md ops i).contains j || (aheadOf md ops j).contains i | none => true)).getD []) →
    ∀ K : Act → World → Prop, Shut (∀ v w', S w' → F i (upd σ i v) w' → (∀ j ∈ stayOf md ops i, F j σ w → F j (upd σ i v) w') → K (a.put ((ops[i]?).bind (·.dst)) v) w') →
      match ops[i]? with
      | none => True
      | some o => if Region.wanted o (yielded ops a.tmps) = true then Oper.wp P o a w K Q else K (a.put o.dst undef) w
structure InvOf (md : Region.Mode) (ops : Array Oper) (a0 : Act) (S : World → Prop) (F : Nat → (Nat → Value) → World → Prop) (l : Array Bool) (a : Act) (w : World) (σ : Nat → Value) : Prop where
  s : S w
  f : ∀ i, l.getD i false = true → F i σ w
  u : ∀ i, l.getD i false = false → σ i = undef
  fill : Filled ops a0 l σ a
  lsize : l.size = ops.size
  down : ∀ i, l.getD i false = true → ∀ j ∈ directOf md ops i, l.getD j false = true
theorem ready_unlisted {l : Array Bool} {i : Nat} (h : i ∈ Region.ready md ops l) : l.getD i true = false ∧ i < ops.size ∧ ∀ j ∈ directOf md ops i, l.getD j false = true := by
  unfold Region.ready at h
  simp only [List.mem_filter, List.mem_range, Bool.and_eq_true, Bool.not_eq_true'] at h
  obtain ⟨h1, h2, h3⟩ := h
  refine ⟨h2, h1, fun j hj => ?_⟩
  unfold directOf at hj
  cases ho : ops[i]? with
  | none => rw [ho] at hj; simp at hj
  | some o =>
    rw [ho] at h3 hj
    simp only [Option.map_some, Option.getD_some, Array.all_eq_true', Bool.or_eq_true, Bool.not_eq_true', List.mem_map, List.mem_filter, Array.mem_toList_iff] at h3 hj
    obtain ⟨e, ⟨he, hb⟩, rfl⟩ := hj
    rcases h3 e he with h | h
    · rw [hb] at h; cases h
    · exact h
theorem ahead_listed {l : Array Bool} (hdown : ∀ i, l.getD i false = true → ∀ j ∈ directOf md ops i, l.getD j false = true) {i : Nat} (h : ∀ j ∈ directOf md ops i, l.getD j false = true) :
    ∀ j ∈ aheadOf md ops i, l.getD j false = true := by
  unfold aheadOf
  generalize (List.range i).reverse = ks
  generalize directOf md ops i = s at h
  induction ks generalizing s with
  | nil => simpa using h
  | cons k ks ih =>
    rw [List.foldl_cons]
    refine ih _ ?_
    intro j hj
    split at hj
    · rename_i hc
      rcases List.mem_append.1 hj with hj | hj
      · exact h j hj
      · exact hdown k (h k (by simpa using hc)) j (List.mem_filter.1 hj).1
    · exact h j hj
def leftOf (ops : Array Oper) (l : Array Bool) : List Nat := (List.range ops.size).filter fun i => !l.getD i true
theorem left_less {l : Array Bool} {i : Nat} (h : l.getD i true = false) (hi : i < ops.size) : (leftOf ops (l.setIfInBounds i true)).length < (leftOf ops l).length := by
  have e : leftOf ops (l.setIfInBounds i true) = (leftOf ops l).filter (fun j => j != i) := by
    unfold leftOf
    rw [List.filter_filter]
    refine List.filter_congr fun j hj => ?_
    simp only [Array.getD_eq_getD_getElem?, Array.getElem?_setIfInBounds]
    by_cases hji : j = i
    · subst hji
      simp
      split <;> simp
    · rw [if_neg (fun e => hji e.symm)]; simp [hji]
  rw [e]
  refine List.length_filter_lt_length_iff_exists.2 ⟨i, ?_, by simp⟩
  unfold leftOf
  exact List.mem_filter.2 ⟨by simpa using hi, by rw [h]; rfl⟩
theorem ready_nil {n : Nat} (hk : regOk md ops n = true) {l : Array Bool} (hls : l.size = ops.size) (h : Region.ready md ops l = []) : ∀ i, i < ops.size → l.getD i false = true := by
  intro i
  induction i using Nat.strongRecOn with
  | ind i ih =>
    intro hi
    cases hc : l.getD i false with
    | true => rfl
    | false =>
      exfalso
      have hmem : i ∈ Region.ready md ops l := by
        unfold Region.ready
        simp only [List.mem_filter, List.mem_range, Bool.and_eq_true, Bool.not_eq_true']
        refine ⟨hi, ?_, ?_⟩
        · have hlt : i < l.size := by omega
          simp only [Array.getD_eq_getD_getElem?, Array.getElem?_eq_getElem hlt, Option.getD_some] at hc ⊢
          exact hc
        · obtain ⟨o, ho⟩ : ∃ o, ops[i]? = some o := ⟨ops[i], by simp [hi]⟩
          rw [ho]
          simp only [Option.map_some, Option.getD_some, Array.all_eq_true', Bool.or_eq_true, Bool.not_eq_true']
          intro e he
          cases hb : Region.binds md e with
          | false => left; rfl
          | true =>
            right
            have hd : e.on ∈ directOf md ops i := by
              unfold directOf
              rw [ho]
              simp only [Option.map_some, Option.getD_some, List.mem_map, List.mem_filter, Array.mem_toList_iff]
              exact ⟨e, ⟨he, hb⟩, rfl⟩
            have hlt := regOk_back hk hd
            exact ih _ hlt (by omega)
      rw [h] at hmem
      cases hmem
theorem wpAny_inv {a0 : Act} {n : Nat} {S : World → Prop} {F : Nat → (Nat → Value) → World → Prop} (hn : a0.tmps.size = n) (hk : regOk md ops n = true)
    (hstep : ∀ i, i < ops.size → StepOf P ops Q md a0 S F i)
    (hend : ∀ σ w, S w → (∀ i, i < ops.size → F i σ w) → Q .normal ⟨fillAll ops σ a0.tmps ops.size, a0.defers⟩ w) :
    ∀ (fuel : Nat) (l : Array Bool) (a : Act) (w : World) (σ : Nat → Value), (leftOf ops l).length ≤ fuel → InvOf md ops a0 S F l a w σ → wpAny P md ops Q fuel l a w := by
  have hfin : ∀ (l : Array Bool) (a : Act) (w : World) (σ : Nat → Value), InvOf md ops a0 S F l a w σ → Region.ready md ops l = [] → Q .normal a w := by
    intro l a w σ hI hr
    have hall := ready_nil hk hI.lsize hr
    have hq := hend σ w hI.s (fun i hi => hI.f i (hall i hi))
    have e : a = ⟨fillAll ops σ a0.tmps ops.size, a0.defers⟩ := by
      obtain ⟨T, D⟩ := a
      have h1 : D = a0.defers := hI.fill.defers
      subst h1
      congr 1
      apply Array.ext_getElem?
      intro t
      rw [hI.fill.slot t, fillAll_get hn hk σ t ops.size (Nat.le_refl _)]
      cases hw : whoOf ops t with
      | none => rfl
      | some i =>
        have hi : i < ops.size := by
          rcases Nat.lt_or_ge i ops.size with hlt | hge
          · exact hlt
          · have := whoOf_spec hw; rw [Array.getElem?_eq_none hge] at this; cases this
        simp [hall i hi, hi]
    rw [e]; exact hq
  intro fuel
  induction fuel with
  | zero =>
    intro l a w σ hle hI
    have hnil : Region.ready md ops l = [] := by
      cases hr : Region.ready md ops l with
      | nil => rfl
      | cons i r =>
        have hi : i ∈ Region.ready md ops l := by rw [hr]; simp
        have := ready_unlisted hi
        have hm : i ∈ leftOf ops l := by unfold leftOf; exact List.mem_filter.2 ⟨by simpa using this.2.1, by rw [this.1]; rfl⟩
        have := List.length_pos_of_mem hm
        omega
    exact ⟨hnil, hfin l a w σ hI hnil⟩
  | succ fuel ih =>
    intro l a w σ hle hI
    refine ⟨hfin l a w σ hI, fun i hi => ?_⟩
    obtain ⟨hl, his, hdir⟩ := ready_unlisted hi
    obtain ⟨o, ho⟩ : ∃ o, ops[i]? = some o := ⟨ops[i], by simp [his]⟩
    have hah := ahead_listed hI.down hdir
    have hls : i < l.size := by rw [hI.lsize]; exact his
    have hget : ∀ k, (l.setIfInBounds i true).getD k false = if k = i then true else l.getD k false := fun k => by
      simp only [Array.getD_eq_getD_getElem?, Array.getElem?_setIfInBounds]
      by_cases hk : k = i
      · subst hk; simp [hls]
      · rw [if_neg (fun e => hk e.symm), if_neg hk]
    have hst := hstep i his σ a w hI.s (AllF.of fun j hj => hI.f j (hah j hj))
      ⟨hI.u i (by simp only [Array.getD_eq_getD_getElem?, Array.getElem?_eq_getElem hls, Option.getD_some] at hl ⊢; exact hl), fun j => by
        cases hj : l.getD j false with
        | true => exact .inl (hI.f j hj)
        | false => exact .inr (hI.u j hj)⟩
      (by
        rw [ho]
        refine AllSlots.of fun t ht => ?_
        simp only [Option.map_some, Option.getD_some, List.mem_filter] at ht
        rw [hI.fill.slot t]
        unfold slotOf
        cases hw : whoOf ops t with
        | none => rfl
        | some j =>
          have h2 := ht.2
          rw [hw] at h2
          simp only [Bool.or_eq_true] at h2
          by_cases hc : (aheadOf md ops i).contains j = true
          · have := hah j (by simpa using hc)
            simp only [this, hc, if_true]
          · have h3 := h2.resolve_left hc
            have hlj : l.getD j false = false := by
              cases hlj : l.getD j false with
              | false => rfl
              | true =>
                have h4 := ahead_listed hI.down (hI.down j hlj) i (by simpa using h3)
                simp only [Array.getD_eq_getD_getElem?, Array.getElem?_eq_getElem hls, Option.getD_some] at h4 hl
                rw [h4] at hl; cases hl
            simp only [hlj, hc, if_false, Bool.false_eq_true])
    rw [ho] at hst
    refine wpOp_step ho fun K hK => hst K fun v w' hS hF hpres => hK _ _ ?_
    refine ih _ _ _ (upd σ i v) ?_ ?_
    · have := left_less (ops := ops) hl his
      omega
    · refine ⟨hS, fun j hj => ?_, fun j hj => ?_, ?_, by simpa using hI.lsize, fun j hj k hkd => ?_⟩
      · by_cases hji : j = i
        · subst hji; exact hF
        · rw [hget, if_neg hji] at hj
          have hjs : j < ops.size := by
            rcases Nat.lt_or_ge j ops.size with hlt | hge
            · exact hlt
            · have : l.getD j false = false := by
                simp only [Array.getD_eq_getD_getElem?]
                rw [Array.getElem?_eq_none (by rw [hI.lsize]; exact hge)]; rfl
              rw [this] at hj; cases hj
          refine hpres j ?_ (hI.f j hj)
          unfold stayOf
          simp only [List.mem_filter, List.mem_range, Bool.and_eq_true, bne_iff_ne, ne_eq, Bool.not_eq_true']
          refine ⟨hjs, hji, ?_⟩
          cases hc : (aheadOf md ops j).contains i with
          | false => rfl
          | true =>
            have h4 := ahead_listed hI.down (hI.down j hj) i (by simpa using hc)
            simp only [Array.getD_eq_getD_getElem?, Array.getElem?_eq_getElem hls, Option.getD_some] at h4 hl
            rw [h4] at hl; cases hl
      · by_cases hji : j = i
        · subst hji; rw [hget, if_pos rfl] at hj; cases hj
        · rw [hget, if_neg hji] at hj
          rw [upd_other _ _ _ _ hji]
          exact hI.u j hj
      · have := hI.fill.put hn hk ho hls v
        simpa [ho] using this
      · rw [hget]
        by_cases hki : k = i
        · rw [if_pos hki]
        · rw [if_neg hki]
          by_cases hji : j = i
          · subst hji; exact hdir k hkd
          · rw [hget, if_neg hji] at hj
            exact hI.down j hj k hkd
def looksOf (md : Region.Mode) (ops : Array Oper) (i : Nat) : List Nat := (((ops[i]?).map (fun o => (o.looksAt ops).filter fun t => match whoOf ops t with | some j => (aheadOf md ops i).contains j || (aheadOf md ops j).contains i | none => true)).getD [])
def whoIn (md : Region.Mode) (ops : Array Oper) (i t : Nat) : List Nat := match whoOf ops t with | some j => if (aheadOf md ops i).contains j then [j] else [] | none => []
theorem slotOf_who {a0 : Act} {σ : Nat → Value} {i t j : Nat} (h : whoIn md ops i t = [j]) : slotOf md ops a0 σ i t = some (σ j) := by
  unfold whoIn at h
  unfold slotOf
  cases hw : whoOf ops t with
  | none => rw [hw] at h; cases h
  | some k =>
    rw [hw] at h
    simp only [] at h ⊢
    split at h
    · rename_i hc; rw [if_pos hc]; cases h; rfl
    · cases h
theorem slotOf_none {a0 : Act} {σ : Nat → Value} {i t : Nat} (h : whoIn md ops i t = []) : slotOf md ops a0 σ i t = a0.tmps[t]? := by
  unfold whoIn at h
  unfold slotOf
  cases hw : whoOf ops t with
  | none => rfl
  | some k =>
    rw [hw] at h
    simp only [] at h ⊢
    split at h
    · cases h
    · rename_i hc; rw [if_neg hc]
theorem AllSlots.cons_who {a0 a : Act} {σ : Nat → Value} {i t j : Nat} {r : List Nat} (h : AllSlots md ops a0 a σ i (t :: r)) (hw : whoIn md ops i t = [j]) : a.tmps[t]? = some (σ j) := by rw [h.1]; exact slotOf_who hw
theorem AllSlots.cons_none {a0 a : Act} {σ : Nat → Value} {i t : Nat} {r : List Nat} (h : AllSlots md ops a0 a σ i (t :: r)) (hw : whoIn md ops i t = []) : a.tmps[t]? = a0.tmps[t]? := by rw [h.1]; exact slotOf_none hw
theorem StepOf.intro {P : Program} {ops : Array Oper} {Q : Exit → Act → World → Prop} {md : Region.Mode} {a0 : Act} {S : World → Prop} {F : Nat → (Nat → Value) → World → Prop} {i : Nat} {o : Oper} (ho : ops[i]? = some o) (js ts : List Nat) (hjs : aheadOf md ops i = js) (hts : looksOf md ops i = ts)
    (h : ∀ (σ : Nat → Value) (a : Act) (w : World), S w → AllF F σ w js → (σ i = undef ∧ ∀ j, F j σ w ∨ σ j = undef) → AllSlots md ops a0 a σ i ts →
      ∀ K : Act → World → Prop, Shut (∀ v w', S w' → F i (upd σ i v) w' → (∀ j ∈ stayOf md ops i, F j σ w → F j (upd σ i v) w') → K (a.put o.dst v) w') →
        if Region.wanted o (yielded ops a.tmps) = true then Oper.wp P o a w K Q else K (a.put o.dst undef) w) : StepOf P ops Q md a0 S F i := by
  intro σ a w hS hF hU hA K hK
  subst hjs
  subst hts
  rw [ho]
  exact h σ a w hS hF hU hA K (fun v w' h1 h2 h3 => by have := hK v w' h1 h2 h3; rw [ho] at this; exact this)
def AllSteps (P : Program) (ops : Array Oper) (Q : Exit → Act → World → Prop) (md : Region.Mode) (a0 : Act) (S : World → Prop) (F : Nat → (Nat → Value) → World → Prop) : Nat → Prop
  | 0 => True
  | k + 1 => AllSteps P ops Q md a0 S F k ∧ StepOf P ops Q md a0 S F k
theorem AllSteps.all {P : Program} {ops : Array Oper} {Q : Exit → Act → World → Prop} {md : Region.Mode} {a0 : Act} {S : World → Prop} {F : Nat → (Nat → Value) → World → Prop} : ∀ {m : Nat}, AllSteps P ops Q md a0 S F m → ∀ i, i < m → StepOf P ops Q md a0 S F i
  | 0, _, i, h => by omega
  | k + 1, hh, i, h => by
    by_cases hik : i = k
    · subst hik; exact hh.2
    · exact AllSteps.all hh.1 i (by omega)
def UpF (F : Nat → (Nat → Value) → World → Prop) (σ : Nat → Value) (w : World) : Nat → Prop
  | 0 => True
  | k + 1 => UpF F σ w k ∧ F k σ w
theorem UpF.of {F : Nat → (Nat → Value) → World → Prop} {σ : Nat → Value} {w : World} : ∀ {m : Nat}, (∀ i, i < m → F i σ w) → UpF F σ w m
  | 0, _ => trivial
  | k + 1, h => ⟨UpF.of fun i hi => h i (by omega), h k (by omega)⟩
def AllP (F G : Nat → Prop) : List Nat → Prop
  | [] => True
  | k :: r => (F k → G k) ∧ AllP F G r
theorem AllP.all {F G : Nat → Prop} : ∀ {js : List Nat}, AllP F G js → ∀ j ∈ js, F j → G j
  | [], _, j, h => by cases h
  | k :: r, hh, j, h => by
    rcases List.mem_cons.1 h with rfl | h
    · exact hh.1
    · exact AllP.all hh.2 j h
/-- **THE BEGINNING.** -/
theorem wp_region_inv {id : Nat} {a0 : Act} {w : World} {S : World → Prop} (F : Nat → (Nat → Value) → World → Prop) (n : Nat) (hm : P.follows .mixedOrders = true) (hn : a0.tmps.size = n) (hk : regOk .any ops n = true) (hS : S w.drew)
    (hstep : ∀ i, i < ops.size → StepOf P ops Q .any a0 S F i)
    (hend : ∀ σ w, S w → (∀ i, i < ops.size → F i σ w) → Q .normal ⟨fillAll ops σ a0.tmps ops.size, a0.defers⟩ w) : (Code.region id ops true).wp P Q a0 w := by
  refine wp_region_any hm (wpAny_inv (S := S) (F := F) hn hk hstep hend ops.size _ a0 w.drew (fun _ => undef) ?_ ?_)
  · unfold leftOf
    refine Nat.le_trans (List.length_filter_le _ _) (by simp)
  · have hf : ∀ i, (Array.replicate ops.size false).getD i false = false := fun i => by
      simp only [Array.getD_eq_getD_getElem?, Array.getElem?_replicate]
      split <;> rfl
    refine ⟨hS, fun i hi => ?_, fun _ _ => rfl, ⟨rfl, rfl, fun t => ?_⟩, by simp, fun i hi => ?_⟩
    · rw [hf] at hi; cases hi
    · split
      · simp [hf]
      · rfl
    · rw [hf] at hi; cases hi
theorem wp_region_inv_lit {P : Program} {ops : Array Oper} {Q : Exit → Act → World → Prop} {id : Nat} {a0 : Act} {w : World} {S : World → Prop} (F : Nat → (Nat → Value) → World → Prop) (n m : Nat) (hm : P.follows .mixedOrders = true) (hn : a0.tmps.size = n) (hsz : ops.size = m) (hk : regOk .any ops n = true) (hS : S w.drew)
    (hstep : ∀ Q', AllSteps P ops Q' .any a0 S F m)
    (hend : ∀ σ w', S w' → UpF F σ w' m → Q .normal ⟨fillAll ops σ a0.tmps m, a0.defers⟩ w') : (Code.region id ops true).wp P Q a0 w := by
  subst hsz
  exact wp_region_inv (S := S) F n hm hn hk hS (fun i hi => (hstep Q).all i hi) (fun σ w' h1 h2 => hend σ w' h1 (UpF.of h2))
end
/-- Facts in a list. -/
def nthF : List ((Nat → Value) → World → Prop) → Nat → (Nat → Value) → World → Prop
  | [], _ => fun _ _ => True
  | f :: _, 0 => f
  | _ :: r, i + 1 => nthF r i
theorem AllSlots.get {md : Region.Mode} {ops : Array Oper} {a0 a : Act} {σ : Nat → Value} {i t : Nat} : ∀ {ts : List Nat}, AllSlots md ops a0 a σ i ts → t ∈ ts → a.tmps[t]? = slotOf md ops a0 σ i t
  | [], _, h => by cases h
  | u :: r, hh, h => by
    rcases List.mem_cons.1 h with rfl | h
    · exact hh.1
    · exact AllSlots.get hh.2 h
theorem AllF.get {F : Nat → (Nat → Value) → World → Prop} {σ : Nat → Value} {w : World} {j : Nat} : ∀ {is : List Nat}, AllF F σ w is → j ∈ is → F j σ w
  | [], _, h => by cases h
  | u :: r, hh, h => by
    rcases List.mem_cons.1 h with rfl | h
    · exact hh.1
    · exact AllF.get hh.2 h
/-- One operation's step, its lists written out: those ahead, the slots that it looks at, those that may have come up already. -/
theorem StepOf.introL {P : Program} {ops : Array Oper} {Q : Exit → Act → World → Prop} {md : Region.Mode} {a0 : Act} {S : World → Prop} {F : Nat → (Nat → Value) → World → Prop} {i : Nat} {o : Oper} (ho : ops[i]? = some o) (d : Option Tmp) (hd : o.dst = d) (js ts ps : List Nat)
    (hjs : (js.all (fun j => (aheadOf md ops i).contains j) && ts.all (fun t => (looksOf md ops i).contains t) && (stayOf md ops i).all (fun j => ps.contains j)) = true)
    (h : ∀ (σ : Nat → Value) (a : Act) (w : World), S w → AllF F σ w js → Shut (σ i = undef ∧ ∀ j, F j σ w ∨ σ j = undef) → AllSlots md ops a0 a σ i ts →
      ∀ K : Act → World → Prop, Shut (∀ v w', S w' → F i (upd σ i v) w' → AllP (fun j => F j σ w) (fun j => F j (upd σ i v) w') ps → K (a.put d v) w') →
        if Region.wanted o (yielded ops a.tmps) = true then Oper.wp P o a w K Q else K (a.put d undef) w) : StepOf P ops Q md a0 S F i := by
  subst hd
  simp only [Bool.and_eq_true] at hjs
  obtain ⟨⟨h1, h2⟩, h3⟩ := hjs
  refine StepOf.intro ho _ _ rfl rfl fun σ a w k1 k2 k3 k4 K hK => h σ a w k1 (AllF.of fun j hj => ?_) k3 (AllSlots.of fun t ht => ?_) K fun v w' g1 g2 g3 => hK v w' g1 g2 fun j hj => ?_
  · exact AllF.get k2 (by simpa using List.all_eq_true.1 h1 j hj)
  · exact AllSlots.get k4 (by simpa using List.all_eq_true.1 h2 t ht)
  · exact AllP.all g3 j (by simpa using List.all_eq_true.1 h3 j hj)
theorem heap_lt {w : World} {p : Nat} {o : Obj} (h : w.heap[p]? = some o) : p < w.heap.size := by
  rcases Nat.lt_or_ge p w.heap.size with hl | hg
  · exact hl
  · rw [Array.getElem?_eq_none hg] at h; cases h
theorem heap_below {w w' : World} {p : Nat} {o : Obj} (h : w.heap[p]? = some o) (hb : Below w.heap.size w w') : w'.heap[p]? = some o := (hb.block p (heap_lt h)).trans h
theorem heap_alloc {w : World} {p : Nat} {o : Obj} (h : w.heap[p]? = some o) (o' : Obj) : (w.alloc o').heap[p]? = some o := (Below.heap_alloc w o' p (heap_lt h)).trans h
theorem heap_set {w : World} {p : Nat} {o : Obj} (h : w.heap[p]? = some o) {a : Addr} (hne : p ≠ a.block) (v : Value) : (w.setCell a v).heap[p]? = some o := (Below.heap_setCell w a v p hne).trans h
theorem heap_new (w : World) (o : Obj) : (w.alloc o).heap[w.heap.size]? = some o := by show (w.heap.push o)[w.heap.size]? = some o; simp only [Array.getElem?_push_size]
end Go.Proofs.Ytlcbfpcabalgcaa
