/-
  A region that draws its order, whose last operation (it waits for all that read what it writes) need not keep what the others keep.
-/
import Derived.WalkKit
import Derived.Deep.RegionHeld3
import Derived.Test.YtcpfafmkhegckaaMgKinds4
import Derived.Test.YtcpfafmkhegckaaMgKinds1
import Derived.Test.YtcpfafmkhegckaaMgKinds6
import Derived.Test.YtcpfafmkhegckaaMgKinds5
import Derived.Laws.EntriesVeiled
namespace Go.Proofs.Ytcpfafmkhegckaa
open Go.RowKit
set_option linter.unusedVariables false
section
variable {P : Program} {ops : Array Oper} {Q : Exit → Act → World → Prop} {md : Region.Mode} {S : World → Prop} {f : Nat}
/-- Whatever order is picked from here on; and S holds behind each operation but number f. -/
def wpAnyF (P : Program) (md : Region.Mode) (ops : Array Oper) (Q : Exit → Act → World → Prop) (S : World → Prop) (f : Nat) : Nat → Array Bool → Act → World → Prop
  | 0, listed, a, w => Region.ready md ops listed = [] ∧ Q .normal a w
  | fuel + 1, listed, a, w =>
    (Region.ready md ops listed = [] → Q .normal a w) ∧
    ∀ i ∈ Region.ready md ops listed, wpOp P ops Q i (fun a' w' => (i ≠ f → S w') ∧ wpAnyF P md ops Q S f fuel (listed.setIfInBounds i true) a' w') a w
theorem wpAny_of_F : ∀ (fuel : Nat) (listed : Array Bool) (a : Act) (w : World), wpAnyF P md ops Q S f fuel listed a w → wpAny P md ops Q fuel listed a w
  | 0, _, _, _, h => h
  | fuel + 1, _, _, _, h => ⟨h.1, fun i hi => wpOp_mono (fun a' w' h' => wpAny_of_F fuel _ a' w' h'.2) (h.2 i hi)⟩
theorem wpAnyF_first {i : Nat} {oi : Oper} {v : Value} (hi : ops[i]? = some oi) (hsel : ∀ (j : Nat) (o : Oper) cs b, ops[j]? = some o → o.op ≠ .select cs b)
    (hQ : ∀ c a w, Q (.panic c) (a.put oi.dst v) w → Q (.panic c) a w) (hif : i ≠ f) (hfi : ∀ o, ops[f]? = some o → ∃ e ∈ o.after, Region.binds md e = true ∧ e.on = i) :
    ∀ (fuel : Nat) (listed : Array Bool) (a : Act) (w : World),
      (∀ j oj, ops[j]? = some oj → j ≠ i → listed.getD j true = false → (∀ e ∈ oj.after, Region.binds md e = true → e.on ≠ i) → oi.apart ops oj = true) →
      i ∈ Region.ready md ops listed → YieldsIf P ops S oi v a → S w →
      wpAnyF P md ops Q S f fuel (listed.setIfInBounds i true) (a.put oi.dst v) w → wpAnyF P md ops Q S f (fuel + 1) listed a w := by
  intro fuel
  induction fuel with
  | zero =>
    intro listed a w _ hr hy hS H
    refine ⟨fun h => (by rw [h] at hr; cases hr), fun j hj => ?_⟩
    by_cases hji : j = i
    · subst hji; exact hy.wpOp hi hS ⟨fun _ => hS, H⟩
    · have := ready_mono hj hji
      rw [H.1] at this
      cases this
  | succ fuel ih =>
    intro listed a w hfree hr hy hS H
    refine ⟨fun h => (by rw [h] at hr; cases hr), fun j hj => ?_⟩
    by_cases hji : j = i
    · subst hji; exact hy.wpOp hi hS ⟨fun _ => hS, H⟩
    · have h1 := H.2 j (ready_mono hj hji)
      obtain ⟨hjun, oj, hoj, hall⟩ := mem_ready.1 hj
      have hnot : ∀ e ∈ oj.after, Region.binds md e = true → e.on ≠ i := fun e he hb heq => by
        have h1 := hall e he hb
        have h0 := (mem_ready.1 hr).1
        rw [heq] at h1
        rcases Nat.lt_or_ge i listed.size with h' | h'
        · simp [h'] at h0 h1; rw [h0] at h1; cases h1
        · simp [Array.getElem?_eq_none h'] at h1
      have hjf : j ≠ f := fun e => by
        subst e
        obtain ⟨ed, h1, h2, h3⟩ := hfi oj hoj
        exact hnot ed h1 h2 h3
      have h2 := wpOp_putIf hoj (hfree j oj hoj hji hjun hnot) (fun cs b => hsel i oi cs b hi) (fun cs b => hsel j oj cs b hoj) hQ hy h1
      have hfree' : ∀ k ok, ops[k]? = some ok → k ≠ i → (listed.setIfInBounds j true).getD k true = false →
          (∀ e ∈ ok.after, Region.binds md e = true → e.on ≠ i) → oi.apart ops ok = true := fun k ok hk hki hun hno => by
        refine hfree k ok hk hki ?_ hno
        by_cases hjk : j = k
        · subst hjk; exact hjun
        · rw [getD_set_ne true hjk] at hun; exact hun
      refine wpOp_mono (fun a' w' h3 => ⟨h3.2.1, ih (listed.setIfInBounds j true) a' w' hfree' (ready_mono hr (Ne.symm hji)) h3.1 (h3.2.1 hjf) ?_⟩) h2
      rw [Array.setIfInBounds_comm _ _ hji]
      exact h3.2.2
theorem wpAnyF_done {listed : Array Bool} {a : Act} {w : World} (hr : Region.ready md ops listed = []) (h : Q .normal a w) : ∀ fuel, wpAnyF P md ops Q S f fuel listed a w
  | 0 => ⟨hr, h⟩
  | _ + 1 => ⟨fun _ => h, by rw [hr]; simp⟩
theorem wp_region_F {id : Nat} {a : Act} {w : World} (f : Nat) (hm : P.follows .mixedOrders = true) (hS : S w.drew)
    (h : S w.drew → wpAnyF P .any ops Q S f ops.size (Array.replicate ops.size false) a w.drew) : (Code.region id ops true).wp P Q a w :=
  wp_region_any hm (wpAny_of_F _ _ _ _ (h hS))
/-- One that may be taken first; what it writes, and what has come up behind it, written out. -/
theorem take1F {i : Nat} (N : Option Tmp) {oi : Oper} {v : Value} {fuel : Nat} {l : Array Bool} (l' : Array Bool) {a : Act} {w : World} (hi : ops[i]? = some oi) (hN : oi.dst = N)
    (hc : (Region.noSelect ops && Region.free md ops l i && (Region.ready md ops l).contains i && (l.setIfInBounds i true == l') && decide (i ≠ f) && (match ops[f]? with | some o => o.after.toList.any (fun e => Region.binds md e && e.on == i) | none => true)) = true)
    (hQ : ∀ c a w, Q (.panic c) (a.put N v) w → Q (.panic c) a w) (hy : YieldsIf P ops S oi v a) (hS : S w) {a' : Act} (ha : a.put N v = a')
    (h : wpAnyF P md ops Q S f fuel l' a' w) : wpAnyF P md ops Q S f (fuel + 1) l a w := by
  simp only [Bool.and_eq_true, beq_iff_eq, decide_eq_true_eq] at hc
  obtain ⟨⟨⟨⟨⟨h1, h2⟩, h3⟩, h4⟩, h5⟩, h6⟩ := hc
  subst h4; subst ha; subst hN
  refine wpAnyF_first hi (Region.noSelect_spec h1) hQ h5 (fun o ho => ?_) fuel l a w (Region.free_spec hi h2) (by simpa using h3) hy hS h
  rw [ho] at h6
  simp only [List.any_eq_true, Bool.and_eq_true, beq_iff_eq] at h6
  obtain ⟨e, he, hb, hon⟩ := h6
  exact ⟨e, by simpa using he, hb, hon⟩
/-- The only one that may come up, carried out. -/
theorem loud1F {i : Nat} (N : Option Tmp) {oi : Oper} {fuel : Nat} {l : Array Bool} (l' : Array Bool) {a : Act} {w : World} (hi : ops[i]? = some oi) (hN : oi.dst = N)
    (hc : ((Region.ready md ops l == [i]) && (l.setIfInBounds i true == l')) = true)
    (h : ∀ K' : Act → World → Prop, Shut (∀ a w, S w → (S w → wpAnyF P md ops Q S f fuel l' a w) → K' a w) → if Region.wanted oi (yielded ops a.tmps) = true then Oper.wp P oi a w K' Q else K' (a.put N undef) w) :
    wpAnyF P md ops Q S f (fuel + 1) l a w := by
  simp only [Bool.and_eq_true, beq_iff_eq] at hc
  obtain ⟨h1, h2⟩ := hc
  subst h2; subst hN
  refine ⟨fun h0 => absurd (h1 ▸ h0) (by simp), fun j hj => ?_⟩
  rw [h1] at hj
  obtain rfl : j = i := by simpa using hj
  exact wpOp_step hi (fun K' hK => h K' (fun a w hS hW => hK a w ⟨fun _ => hS, hW hS⟩))
/-- One of two may come up: both are carried out. -/
theorem fork2F {i j : Nat} (N M : Option Tmp) {oi oj : Oper} {fuel : Nat} {l : Array Bool} (l' l'' : Array Bool) {a : Act} {w : World} (hi : ops[i]? = some oi) (hj : ops[j]? = some oj) (hN : oi.dst = N) (hM : oj.dst = M)
    (hc : ((Region.ready md ops l == [i, j]) && (l.setIfInBounds i true == l') && (l.setIfInBounds j true == l'')) = true)
    (h1 : ∀ K' : Act → World → Prop, Shut (∀ a w, S w → (S w → wpAnyF P md ops Q S f fuel l' a w) → K' a w) → if Region.wanted oi (yielded ops a.tmps) = true then Oper.wp P oi a w K' Q else K' (a.put N undef) w)
    (h2 : ∀ K' : Act → World → Prop, Shut (∀ a w, S w → (S w → wpAnyF P md ops Q S f fuel l'' a w) → K' a w) → if Region.wanted oj (yielded ops a.tmps) = true then Oper.wp P oj a w K' Q else K' (a.put M undef) w) :
    wpAnyF P md ops Q S f (fuel + 1) l a w := by
  simp only [Bool.and_eq_true, beq_iff_eq] at hc
  obtain ⟨⟨h3, h4⟩, h5⟩ := hc
  subst h4; subst h5; subst hN; subst hM
  refine ⟨fun h0 => absurd (h3 ▸ h0) (by simp), fun k hk => ?_⟩
  rw [h3] at hk
  rcases List.mem_cons.1 hk with rfl | hk
  · exact wpOp_step hi (fun K' hK => h1 K' (fun a w hS hW => hK a w ⟨fun _ => hS, hW hS⟩))
  · obtain rfl : k = j := by simpa using hk
    exact wpOp_step hj (fun K' hK => h2 K' (fun a w hS hW => hK a w ⟨fun _ => hS, hW hS⟩))
/-- The last one. -/
theorem last1F (N : Option Tmp) {oi : Oper} {fuel : Nat} {l : Array Bool} (l' : Array Bool) {a : Act} {w : World} (hi : ops[f]? = some oi) (hN : oi.dst = N)
    (hc : ((Region.ready md ops l == [f]) && (l.setIfInBounds f true == l')) = true)
    (h : ∀ K' : Act → World → Prop, Shut (∀ a w, wpAnyF P md ops Q S f fuel l' a w → K' a w) → if Region.wanted oi (yielded ops a.tmps) = true then Oper.wp P oi a w K' Q else K' (a.put N undef) w) :
    wpAnyF P md ops Q S f (fuel + 1) l a w := by
  simp only [Bool.and_eq_true, beq_iff_eq] at hc
  obtain ⟨h1, h2⟩ := hc
  subst h2; subst hN
  refine ⟨fun h0 => absurd (h1 ▸ h0) (by simp), fun j hj => ?_⟩
  rw [h1] at hj
  obtain rfl : j = f := by simpa using hj
  exact wpOp_step hi (fun K' hK => h K' (fun a w hW => hK a w ⟨fun h => absurd rfl h, hW⟩))
end
end Go.Proofs.Ytcpfafmkhegckaa
/-
  Codec: small lemmas for lists.
-/
namespace Go.Proofs.Ytcpfafmkhegckaa
open Go.RowKit
set_option linter.unusedVariables false
theorem set_same (cs : Array Value) (i : Nat) (v : Value) (h : cs[i]? = some v) : cs.setIfInBounds i v = cs := by
  obtain ⟨hi, e⟩ := Array.getElem?_eq_some_iff.1 h
  rw [Array.setIfInBounds, dif_pos hi]
  apply Array.ext (by simp)
  intro j h1 h2
  rw [Array.getElem_set]
  split
  · rename_i e2; subst e2; exact e.symm
  · rfl
theorem set_at (cs : Array Value) (i : Nat) (u v : Value) (h : cs[i]? = some u) : (cs.setIfInBounds i v)[i]? = some v := by
  obtain ⟨hi, e⟩ := Array.getElem?_eq_some_iff.1 h
  rw [Array.getElem?_setIfInBounds, if_pos rfl, if_pos hi]
theorem set_set2 (cs : Array Value) (i : Nat) (u v : Value) : (cs.setIfInBounds i u).setIfInBounds i v = cs.setIfInBounds i v := by
  apply Array.ext_getElem?
  intro j
  rw [Array.getElem?_setIfInBounds, Array.getElem?_setIfInBounds, Array.getElem?_setIfInBounds]
  by_cases h : i = j
  · simp [h]
  · simp [h]
theorem byt_old {w : World} {v : Value} {l : List UInt8} (h : Byt w v l) : Apart (fun b => w.heap.size ≤ b) v l := fun hne b o n c e f => by
  rcases h with ⟨h, _⟩ | ⟨b', o', c', h1, h2, h3, h4⟩
  · exact hne h
  · rw [e] at h1
    cases h1
    have := h4.lt (List.length_pos_iff.2 hne)
    dsimp only at f
    omega
theorem keepF {w w' : World} {n pb : Nat} (h : Below n w w') : Keep (fun b => b = pb ∨ n ≤ b) w w' := ⟨h.os, h.tape, h.output, h.size, fun k hk hF => h.block k (by
  rcases Nat.lt_or_ge k n with h1 | h1
  · exact h1
  · exact absurd (.inr h1) hF)⟩
theorem own_nilk (w : World) (base e k : Nat) : w.ownsRow base e k (.slice none 0 0) 0 [] := ⟨by simp, .inl ⟨rfl, rfl⟩⟩
end Go.Proofs.Ytcpfafmkhegckaa
/-
  Codec: lists of slots.
-/
namespace Go.Proofs.Ytcpfafmkhegckaa
open Go.RowKit
set_option linter.unusedVariables false
set_option linter.unusedSimpArgs false
set_option linter.unnecessarySimpa false
structure Slt where
  at_ : Int
  ver : Nat
  links : Int
  kind : Int
structure Slt.Ok (x : Slt) : Prop where
  at_ : I64 x.at_
  ver : x.ver < 2 ^ 32
  links : I64 x.links
  kind : I64 x.kind
def Slt.cells (x : Slt) : List Value := [.int .i64 x.at_, .int .u32 (x.ver : Int), .int .i64 x.links, .int .i64 x.kind]
theorem Slt.cells_len (x : Slt) : x.cells.length = 4 := rfl
theorem Slt.cells_one (x : Slt) : ∀ u ∈ x.cells, u.oneCell' = true := by
  intro u hu
  simp only [Slt.cells, List.mem_cons, List.not_mem_nil, or_false] at hu
  rcases hu with rfl | rfl | rfl | rfl <;> rfl
def slotL (x : Slt) : List (Nat × Int) := [(4, x.at_), (4, (x.ver : Int)), (2, x.links), (1, x.kind)]
def slotAll (L : List Slt) : List (Nat × Int) := L.flatMap slotL
theorem slotAll_snoc (L : List Slt) (k : Nat) (x : Slt) (h : L[k]? = some x) : slotAll (L.take (k + 1)) = slotAll (L.take k) ++ slotL x := by
  obtain ⟨hk, rfl⟩ := List.getElem?_eq_some_iff.1 h
  unfold slotAll
  rw [List.take_succ_eq_append_getElem hk, List.flatMap_append]; simp
theorem slotAll_len (L : List Slt) : (fB (slotAll L)).length = 11 * L.length := by
  induction L with
  | nil => rfl
  | cons x r ih =>
    have h1 : slotAll (x :: r) = slotL x ++ slotAll r := by simp [slotAll]
    rw [h1, fB_append, List.length_append, ih, fB_len, List.length_cons]
    have h2 : ((slotL x).map (·.1)).sum = 11 := rfl
    rw [h2]; omega
def rslot (l : List UInt8) (a : Nat) : Slt := ⟨(rN l a 4 : Int), rN l (a + 4) 4, (rN l ((a + 4) + 4) 2 : Int), (rN l (((a + 4) + 4) + 2) 1 : Int)⟩
theorem rslot_ok (l : List UInt8) (a : Nat) : (rslot l a).Ok := by
  have h := fun a k (hk : k ≤ 4) => Nat.lt_of_lt_of_le (rN_lt l a k) (Nat.pow_le_pow_right (n := 256) (by decide) hk)
  have hi : ∀ a k, k ≤ 4 → I64 (rN l a k : Int) := fun a k hk => by have := h a k hk; exact ⟨by omega, by omega⟩
  exact ⟨hi _ _ (by decide), h _ _ (by decide), hi _ _ (by decide), hi _ _ (by decide)⟩
theorem infoSlot3 : (Try.prog.info? 85).map (fun i => (i.zero, i.size, i.bytes)) = some (some (.agg #[.int .i64 0, .int .u32 0, .int .i64 0, .int .i64 0]), 4, 32) := by kernel_rfl
theorem slot_bad (l : List UInt8) (a : Nat) : (((((decide (l.length < a)) || !rOk l a 4) || !rOk l (a + 4) 4) || !rOk l ((a + 4) + 4) 2) || !rOk l (((a + 4) + 4) + 2) 1) = decide (l.length < a + 11) := by
  rw [bad_next l _ 4 (by decide), bad_next l _ 4 (by decide), bad_next l _ 2 (by decide), bad_next l _ 1 (by decide)]
/-- One of them, when it writes. -/
theorem pw_slot' {w : World} {base g : Nat} {l : List UInt8} {bad : Bool} (x : Slt) (hx : x.Ok) (pb po : Nat) (h : CwAt w base g l bad) (hr : w.rangeAt pb po x.cells) (hl : l.length ≤ 90000) (hbs : base ≤ w.heap.size) (hpb : pb < base) :
    Calls Try.prog 154 #[wV g, .pointer (some ⟨pb, po, none⟩)] w (CwTo w base g (l ++ fB (slotL x)) (bad || fBad (slotL x))) :=
  pw_slot x.at_ x.ver x.links x.kind pb po h (hr 0 _ rfl) (hr 1 _ rfl) (hr 2 _ rfl) (hr 3 _ rfl) hx.at_ hx.ver hx.links hx.kind hl hbs hpb
/-- One of them, when it reads. -/
theorem pr_slot' {w : World} {g a pb : Nat} {v : Value} {l : List UInt8} {bad : Bool} (h : CrAt w g v l a bad) (hbad : bad = decide (l.length < a)) (ha : a ≤ 900) (hl : l.length ≤ 1000) (hb : w.heap[pb]? = some (.cells #[.int .i64 0, .int .u32 0, .int .i64 0, .int .i64 0] 85 (0, 0))) (hpg : pb ≠ g) (hv : Apart (· = pb) v l) :
    Calls Try.prog 154 #[rV g, .pointer (some ⟨pb, 0, none⟩)] w fun e w' => e = .returned (.tuple #[]) ∧ CrPass w g v l (a + 11) (decide (l.length < a + 11)) pb (rslot l a).cells.toArray 85 w' := by
  refine (pr_slot pb 0 _ 85 0 0 0 0 h ha hl hb rfl rfl rfl rfl hpg hv).mono fun e w' ⟨h1, h2⟩ => ⟨h1, ?_⟩
  rw [hbad, slot_bad] at h2
  exact h2
set_option maxRecDepth 10000 in
set_option maxHeartbeats 8000000 in
theorem lw_slot {w : World} {base g : Nat} {l : List UInt8} {bad : Bool} (L : List Slt) (A : Option Addr) (c : Nat) (pb po : Nat) (h : CwAt w base g l bad) (hc : w.cell? ⟨pb, po, none⟩ = some (.slice A L.length c)) (hR : ReadAt w A Slt.cells 4 L)
    (hA : ∀ a, A = some a → a.block < base) (hpb : pb < base) (hok : ∀ x ∈ L, x.Ok) (hl : l.length ≤ 1000) (hL : L.length ≤ 1000) (hbs : base ≤ w.heap.size) :
    Calls Try.prog 153 #[wV g, .pointer (some ⟨pb, po, none⟩), .func (.func 154) #[] #[]] w (CwTo w base g (l ++ fB (slotAll L)) (bad || fBad (slotAll L))) := by
  have HW := Lib.hid (show CwAt w base g (l ++ fB (slotAll (L.take 0))) (bad || fBad (slotAll (L.take 0))) by simpa [slotAll, fB, fBad] using h)
  have HC := Lib.hid hc
  have HR := Lib.hid hR
  have HA := Lib.hid hA
  have HOK := Lib.hid hok
  have na_more := fun W => na_w ⟨g, 0, none⟩ W "drumlin/codec.more" (by simp)
  have mt_more := fun W => mw_more ⟨g, 0, none⟩ W
  clear h hR hA hok
  unfold wV
  unfold CwTo
  go_enter Try.func153, Try.ntmps153
  go_wp2
  clear hc
  go_loopw [12] (fun i wr => ∃ k : Nat, k ≤ L.length ∧ i = .int .i64 (k : Int) ∧ Hid (CwAt wr base g (l ++ fB (slotAll (L.take k))) (bad || fBad (slotAll (L.take k)))) ∧ Hid (Below base w wr)) (fun i _ => (L.length - intOf i).toNat)
  case atStart => exact ⟨0, by omega, rfl, HW, Lib.hid (Below.refl _ _)⟩
  case round =>
    obtain ⟨k, hk, rfl, HWk, HBk⟩ := hrel
    clear HW
    have hc := (HBk.out.cell (p := ⟨pb, po, none⟩) hpb).trans HC.out
    by_cases hlt : k < L.length
    · obtain ⟨x, hx⟩ : ∃ x, L[k]? = some x := ⟨_, List.getElem?_eq_getElem hlt⟩
      obtain ⟨b, o, rfl, hr⟩ := rows_at Slt.cells_len HR.out hx
      have hbl := HA.out _ rfl
      dsimp only at hbl
      have hr2 : wr.rangeAt b (o + k * 4) x.cells := fun j u hu => (HBk.out.cell (p := ⟨b, o + k * 4 + j, none⟩) hbl).trans (hr j u hu)
      have hlen : (l ++ fB (slotAll (L.take k))).length ≤ 90000 := by
        rw [List.length_append, slotAll_len]
        have : (L.take k).length ≤ k := List.length_take_le _ _
        omega
      have HP := Lib.hid (pw_slot' x (HOK.out x (List.mem_of_getElem? hx)) b (o + k * 4) HWk.out hr2 hlen (Nat.le_trans hbs HBk.out.size) hbl)
      unfold wV CwTo at HP
      have HX := Lib.hid hx
      clear hr hr2 hlen hx
      go_wp2_with (go_at_call 154; go_must (refine HP.out.mono ?_; rintro e w2 ⟨rfl, hcw, hb2⟩; have HW2 := Lib.hid hcw; have HB2 := Lib.hid (HBk.out.trans hb2); clear hcw hb2))
      have HW3 : Hid (CwAt w2 base g (l ++ fB (slotAll (L.take (k + 1)))) (bad || fBad (slotAll (L.take (k + 1))))) := Lib.hid (by
        rw [slotAll_snoc L k x HX.out, fB_append, fBad_append]
        have := HW2.out
        simpa [List.append_assoc, Bool.or_assoc] using this)
      clear HW2
      go_roundw
      case rel => exact ⟨k + 1, by omega, by go_num, HW3, HB2⟩
      case measure => simp [intOf]; omega
    · obtain rfl : k = L.length := by omega
      have ht : L.take L.length = L := List.take_length
      have hW := HWk.out
      rw [ht] at hW
      have HWL := Lib.hid hW
      clear hW ht HWk
      go_wp2
      obtain ⟨wo, rfl⟩ : ∃ wo : World, wo = wr := ⟨_, rfl⟩
      go_loopw [] (fun wr => Hid (wr = wo)) (fun _ => 0)
      case atStart => exact Lib.hid rfl
      case round =>
        have he := hrel.out
        subst he
        go_wp2_with (go_at_call 182; refine (cw_more _ _).mono ?_; rintro e wq ⟨rfl, rfl⟩)
        go_end0
        exact ⟨rfl, HWL.out, HBk.out⟩
def slots (l : List UInt8) (a J : Nat) : List Slt := (List.range J).map fun q => rslot l (a + q * 11)
theorem slots_snoc (l : List UInt8) (a J : Nat) : slots l a (J + 1) = slots l a J ++ [rslot l (a + J * 11)] := by unfold slots; rw [List.range_succ, List.map_append]; rfl
theorem slots_len (l : List UInt8) (a J : Nat) : (slots l a J).length = J := by simp [slots]
/-- What a list that was read leaves. -/
structure LrSlt (w : World) (g : Nat) (v : Value) (l : List UInt8) (a pb po : Nat) (cs : Array Value) (T : TypeId) (v' : Value) (J : Nat) (w' : World) : Prop where
  form : CrAt w' g v l (a + J * 11) (decide (l.length < a + J * 11))
  cell : w'.heap[pb]? = some (.cells (cs.setIfInBounds po v') T (0, 0))
  own : w'.ownsRow w.heap.size 85 4 v' J (rowsOf Slt.cells (slots l a J))
  keep : Keep (fun b => b = g ∨ b = pb) w w'
set_option maxRecDepth 10000 in
set_option maxHeartbeats 8000000 in
theorem lr_slot {w : World} {g : Nat} {v : Value} {l : List UInt8} (a pb po : Nat) (cs : Array Value) (T : TypeId) (h : CrAt w g v l a (decide (l.length < a))) (hl : l.length ≤ 255) (ha : a ≤ 400) (hb : w.heap[pb]? = some (.cells cs T (0, 0))) (hc : cs[po]? = some (.slice none 0 0)) (hpg : pb ≠ g) (hv : Apart (· = pb) v l) :
    Calls Try.prog 153 #[rV g, .pointer (some ⟨pb, po, none⟩), .func (.func 154) #[] #[]] w fun e w' => ∃ v' J, e = .returned (.tuple #[]) ∧ LrSlt w g v l a pb po cs T v' J w' ∧ l.length ≤ a + J * 11 ∧ (J = 0 ∨ a + (J - 1) * 11 < l.length) := by
  have hgl : g < w.heap.size := (Array.getElem?_eq_some_iff.1 h.box).1
  have hpl : pb < w.heap.size := (Array.getElem?_eq_some_iff.1 hb).1
  have c0 : w.cell? ⟨pb, po, none⟩ = some (.slice none 0 0) := (cell_row hb po).trans hc
  have na_more := fun W => na_r ⟨g, 0, none⟩ W "drumlin/codec.more" (by simp)
  have mt_more := fun W => mr_more ⟨g, 0, none⟩ W
  have hst : LrSlt w g v l a pb po cs T (.slice none 0 0) 0 w := ⟨by rw [Nat.zero_mul, Nat.add_zero]; exact h, by rw [set_same cs po _ hc]; exact hb, own_nilk _ _ _ _, Keep.refl _ w⟩
  have HST := Lib.hid hst
  have HC := Lib.hid hc
  have HV := Lib.hid hv
  have HVA := Lib.hid (byt_old h.byt)
  clear h hb hst hc hv
  unfold rV
  go_enter Try.func153, Try.ntmps153
  go_wp2
  go_loopw [12] (fun i wr => i = .int .i64 0 ∧ Hid (wr = w)) (fun _ _ => 0)
  case atStart => exact ⟨rfl, Lib.hid rfl⟩
  case round =>
    obtain ⟨rfl, he⟩ := hrel
    have he := he.out
    subst he
    go_wp2
    clear c0
    obtain ⟨wo, rfl⟩ : ∃ wo : World, wo = wr := ⟨_, rfl⟩
    go_loopw [] (fun wr => Hid (∃ v' J, LrSlt wo g v l a pb po cs T v' J wr ∧ a + J * 11 ≤ 800 ∧ (J = 0 ∨ a + (J - 1) * 11 < l.length))) (fun wr => (1000 - intOf ((wr.cell? ⟨g, 1, none⟩).getD undef)).toNat)
    case atStart => exact Lib.hid ⟨_, _, HST.out, by omega, .inl rfl⟩
    case round =>
      clear HST
      obtain ⟨v', J, hs, hJ, hJ2⟩ := hrel.out
      obtain ⟨s', c', rfl⟩ := own_slice1 hs.own
      have HAT : Hid (wr.cell? ⟨g, 1, none⟩ = some (.int .i64 ((a + J * 11 : Nat) : Int))) := Lib.hid (cell_row hs.form.box 1)
      have HS := Lib.hid hs
      have HM := Lib.hid (cr_more hs.form (by omega) (by omega))
      have hmb : (!decide (l.length < a + J * 11) && decide (a + J * 11 < l.length)) = decide (a + J * 11 < l.length) := by
        rw [Bool.eq_iff_iff]; simp; omega
      rw [hmb] at HM
      clear hs hmb
      by_cases hlt : a + J * 11 < l.length
      · rw [decide_eq_true hlt] at HM
        go_upto_region 6 with (go_at_call 186; refine HM.out.mono ?_; rintro e w1 ⟨rfl, nq, rfl⟩)
        have hk1 : Keep (fun b => b = g ∨ b = pb) wo (wr.drewN nq) := HS.out.keep.drewN nq
        have hf1 : CrAt (wr.drewN nq) g v l (a + J * 11) (decide (l.length < a + J * 11)) := ⟨HS.out.form.box, byt_keep (F := fun _ => False) HS.out.form.byt ((Keep.refl _ wr).drewN nq) (fun _ _ _ _ _ _ e => e), HS.out.form.apart⟩
        have hc1 : (wr.drewN nq).heap[pb]? = some (.cells (cs.setIfInBounds po (.slice s' J c')) T (0, 0)) := HS.out.cell
        have ho1 : (wr.drewN nq).ownsRow wo.heap.size 85 4 (.slice s' J c') J (rowsOf Slt.cells (slots l a J)) := HS.out.own
        revert hk1 hf1 hc1 ho1
        generalize wr.drewN nq = w1
        intro hk1 hf1 hc1 ho1
        have hba : Below w1.heap.size w1 (w1.alloc (.cells #[.int .i64 0, .int .u32 0, .int .i64 0, .int .i64 0] 85 (0, 0))) := (Below.refl _ _).alloc (Nat.le_refl _) _
        have hnew := heap_alloc_last w1 (.cells #[.int .i64 0, .int .u32 0, .int .i64 0, .int .i64 0] 85 (0, 0))
        have hf2 := hf1.below hba
        have hlt1 : g < w1.heap.size := (Array.getElem?_eq_some_iff.1 hf1.box).1
        have hlt2 : pb < w1.heap.size := (Array.getElem?_eq_some_iff.1 hc1).1
        have HP := Lib.hid (pr_slot' hf2 rfl (by omega) (by omega) hnew (by omega) (byt_apart hf1.byt))
        unfold rV at HP
        have HK2 := Lib.hid (hk1.trans (Keep.of_below hba))
        have HC2 := Lib.hid (old_heap hc1 hba)
        have HO2 := Lib.hid (own_below ho1 hba)
        have HLT := Lib.hid (show g < w1.heap.size ∧ pb < w1.heap.size ∧ wo.heap.size ≤ w1.heap.size from ⟨hlt1, hlt2, hk1.size⟩)
        have HOL := Lib.hid (own_block_lt ho1)
        clear hf1 hf2 hc1 ho1 hba hnew hk1 HM HS hrel
        go_upto_region 8 with (go_at_call 154; go_must (refine HP.out.mono ?_; rintro e w2 ⟨rfl, hcp⟩; have HCP := Lib.hid hcp; clear hcp))
        clear HP
        have hK3 : Keep (fun b => b = g ∨ b = pb) wo w2 := HK2.out.trans' HCP.out.keep (fun i hi hf => by rcases hf with e | e; exact .inl e; have := HLT.out.2.2; omega)
        have hC3 : w2.heap[pb]? = some (.cells (cs.setIfInBounds po (.slice s' J c')) T (0, 0)) := HCP.out.keep.heap HC2.out (by have := HLT.out; omega)
        have hO3 : w2.ownsRow wo.heap.size 85 4 (.slice s' J c') J (rowsOf Slt.cells (slots l a J)) := own_move HO2.out (fun k hk => HCP.out.keep.block k (own_block_lt HO2.out k hk) (by have h1 := (HO2.out.lt k hk).1; have h2 := HOL.out k hk; omega))
        have hXC := HCP.out.cell
        have hpc : w2.cell? ⟨pb, po, none⟩ = some (.slice s' J c') := (cell_row hC3 po).trans (set_at cs po _ _ HC.out)
        have hpf := free_row hC3 po
        have x0 : w2.cell? ⟨w1.heap.size, 0, none⟩ = some (.int .i64 (rN l ((a + J * 11)) 4 : Int)) := cell_row hXC 0
        have x1 : w2.cell? ⟨w1.heap.size, 1, none⟩ = some (.int .u32 (rN l (((a + J * 11) + 4)) 4 : Int)) := cell_row hXC 1
        have x2 : w2.cell? ⟨w1.heap.size, 2, none⟩ = some (.int .i64 (rN l ((((a + J * 11) + 4) + 4)) 2 : Int)) := cell_row hXC 2
        have x3 : w2.cell? ⟨w1.heap.size, 3, none⟩ = some (.int .i64 (rN l (((((a + J * 11) + 4) + 4) + 2)) 1 : Int)) := cell_row hXC 3
        have hlt2 : pb < w2.heap.size := (Array.getElem?_eq_some_iff.1 hC3).1
        have hltX : w1.heap.size < w2.heap.size := (Array.getElem?_eq_some_iff.1 hXC).1
        have hneq : ∀ k, Value.ownBlock (.slice s' J c') = some k → k ≠ pb ∧ k ≠ w1.heap.size ∧ wo.heap.size ≤ k := fun k hk => by
          have h1 := (HO2.out.lt k hk).1
          have h2 := HOL.out k hk
          exact ⟨by omega, by omega, h1⟩
        have hHS : (fun w' : World => w'.cell? ⟨pb, po, none⟩ = some (.slice s' J c') ∧ w'.frozen? ⟨pb, po, none⟩ = false ∧ w'.cell? ⟨w1.heap.size, 0, none⟩ = some (.int .i64 (rN l ((a + J * 11)) 4 : Int)) ∧ w'.cell? ⟨w1.heap.size, 1, none⟩ = some (.int .u32 (rN l (((a + J * 11) + 4)) 4 : Int)) ∧ w'.cell? ⟨w1.heap.size, 2, none⟩ = some (.int .i64 (rN l ((((a + J * 11) + 4) + 4)) 2 : Int)) ∧ w'.cell? ⟨w1.heap.size, 3, none⟩ = some (.int .i64 (rN l (((((a + J * 11) + 4) + 4) + 2)) 1 : Int))) w2.drew := ⟨hpc, hpf, x0, x1, x2, x3⟩
        have hkp : ∀ w' : World, w'.heap[pb]? = w2.heap[pb]? → w'.heap[w1.heap.size]? = w2.heap[w1.heap.size]? → (fun w' : World => w'.cell? ⟨pb, po, none⟩ = some (.slice s' J c') ∧ w'.frozen? ⟨pb, po, none⟩ = false ∧ w'.cell? ⟨w1.heap.size, 0, none⟩ = some (.int .i64 (rN l ((a + J * 11)) 4 : Int)) ∧ w'.cell? ⟨w1.heap.size, 1, none⟩ = some (.int .u32 (rN l (((a + J * 11) + 4)) 4 : Int)) ∧ w'.cell? ⟨w1.heap.size, 2, none⟩ = some (.int .i64 (rN l ((((a + J * 11) + 4) + 4)) 2 : Int)) ∧ w'.cell? ⟨w1.heap.size, 3, none⟩ = some (.int .i64 (rN l (((((a + J * 11) + 4) + 4) + 2)) 1 : Int))) w' := fun w' e1 e2 => ⟨(cell_row (e1.trans hC3) po).trans (set_at cs po _ _ HC.out), free_row (e1.trans hC3) po, cell_row (e2.trans hXC) 0, cell_row (e2.trans hXC) 1, cell_row (e2.trans hXC) 2, cell_row (e2.trans hXC) 3⟩
        have HKP := Lib.hid hkp
        have hAl : Below w2.heap.size w2 (w2.drew.alloc (.cells (rslot l (a + J * 11)).cells.toArray 85 (0, 0))) := (Below.refl _ w2).drew.alloc (Nat.le_refl _) _
        have HAL := Lib.hid hAl
        have HHS := Lib.hid hHS
        have HK3 := Lib.hid hK3
        have HC3 := Lib.hid hC3
        have HO3 := Lib.hid (hO3 : w2.drew.ownsRow wo.heap.size 85 4 (.slice s' J c') J (rowsOf Slt.cells (slots l a J)))
        have HNEQ := Lib.hid hneq
        have HF3 := Lib.hid HCP.out.form
        have hJb : J ≤ 800 := by omega
        have hwoL := HLT.out.2.2
        clear hpc hpf x0 x1 x2 x3 hK3 hC3 hO3 hXC hneq hHS hkp hAl HC2 HO2 HK2 HCP
        refine wp_region_F (S := (fun w' => w'.cell? ⟨pb, po, none⟩ = some (.slice s' J c') ∧ w'.frozen? ⟨pb, po, none⟩ = false ∧ w'.cell? ⟨w1.heap.size, 0, none⟩ = some (.int .i64 (rN l ((a + J * 11)) 4 : Int)) ∧ w'.cell? ⟨w1.heap.size, 1, none⟩ = some (.int .u32 (rN l (((a + J * 11) + 4)) 4 : Int)) ∧ w'.cell? ⟨w1.heap.size, 2, none⟩ = some (.int .i64 (rN l ((((a + J * 11) + 4) + 4)) 2 : Int)) ∧ w'.cell? ⟨w1.heap.size, 3, none⟩ = some (.int .i64 (rN l (((((a + J * 11) + 4) + 4) + 2)) 1 : Int)))) 8 (by kernel_rfl) (by exact HHS.out) (fun hHeld => ?_)
        refine take1F (i := 0) (v := ?_) (a' := ?_) (some 29) #[true, false, false, false, false, false, false, false, false] rfl rfl (by kernel_rfl) (fun _ _ _ h => h) (Or.inl ⟨by rfl, ?_⟩) hHeld ?_ ?_
        rotate_left
        · (intro w hSw; (try dsimp only at hSw); obtain ⟨hpc, hpf, x0, x1, x2, x3⟩ := hSw; go_simp; (try with_reducible rfl))
        rotate_left
        · simp only [Act.put, List.setIfInBounds_toArray, List.set_cons_zero, List.set_cons_succ]
          rfl
        refine take1F (i := 1) (v := ?_) (a' := ?_) (some 30) #[true, true, false, false, false, false, false, false, false] rfl rfl (by kernel_rfl) (fun _ _ _ h => h) (Or.inl ⟨by rfl, ?_⟩) hHeld ?_ ?_
        rotate_left
        · (intro w hSw; (try dsimp only at hSw); obtain ⟨hpc, hpf, x0, x1, x2, x3⟩ := hSw; go_simp; (try with_reducible rfl))
        rotate_left
        · simp only [Act.put, List.setIfInBounds_toArray, List.set_cons_zero, List.set_cons_succ]
          rfl
        refine take1F (i := 2) (v := ?_) (a' := ?_) (some 31) #[true, true, true, false, false, false, false, false, false] rfl rfl (by kernel_rfl) (fun _ _ _ h => h) (Or.inl ⟨by rfl, ?_⟩) hHeld ?_ ?_
        rotate_left
        · (intro w hSw; (try dsimp only at hSw); obtain ⟨hpc, hpf, x0, x1, x2, x3⟩ := hSw; go_simp; (try with_reducible rfl))
        rotate_left
        · simp only [Act.put, List.setIfInBounds_toArray, List.set_cons_zero, List.set_cons_succ]
          rfl
        refine take1F (i := 3) (v := ?_) (a' := ?_) (some 32) #[true, true, true, true, false, false, false, false, false] rfl rfl (by kernel_rfl) (fun _ _ _ h => h) (Or.inl ⟨by rfl, ?_⟩) hHeld ?_ ?_
        rotate_left
        · (intro w hSw; (try dsimp only at hSw); obtain ⟨hpc, hpf, x0, x1, x2, x3⟩ := hSw; go_simp; (try with_reducible rfl))
        rotate_left
        · simp only [Act.put, List.setIfInBounds_toArray, List.set_cons_zero, List.set_cons_succ]
          rfl
        refine take1F (i := 4) (v := ?_) (a' := ?_) (some 33) #[true, true, true, true, true, false, false, false, false] rfl rfl (by kernel_rfl) (fun _ _ _ h => h) (Or.inl ⟨by rfl, ?_⟩) hHeld ?_ ?_
        rotate_left
        · (intro w hSw; (try dsimp only at hSw); obtain ⟨hpc, hpf, x0, x1, x2, x3⟩ := hSw; go_simp; (try with_reducible rfl))
        rotate_left
        · simp only [Act.put, List.setIfInBounds_toArray, List.set_cons_zero, List.set_cons_succ]
          rfl
        refine loud1F (i := 5) (some 34) #[true, true, true, true, true, true, false, false, false] rfl rfl (by kernel_rfl) (fun K hK => ?_)
        go_simp
        skip
        refine hK.out _ _ (by first | exact HKP.out _ (HAL.out.block pb hlt2) (HAL.out.block _ hltX) | exact HKP.out _ ((HG4.out.block pb (Nat.lt_of_lt_of_le hlt2 HAL.out.size) (fun e => (HNEQ.out pb e.symm).1 rfl)).trans (HAL.out.block pb hlt2)) ((HG4.out.block _ (Nat.lt_of_lt_of_le hltX HAL.out.size) (fun e => (HNEQ.out _ e.symm).2.1 rfl)).trans (HAL.out.block _ hltX))) (fun hHeld' => ?_)
        clear hK K hHeld
        have hHeld := hHeld'
        clear hHeld'
        try simp only [Act.put, List.setIfInBounds_toArray, List.set_cons_zero, List.set_cons_succ]
        refine loud1F (i := 6) (some 35) #[true, true, true, true, true, true, true, false, false] rfl rfl (by kernel_rfl) (fun K hK => ?_)
        (refine step_append_rd (by rfl) (.tmp 32) (.tmp 34) 138 (by rfl) wo.heap.size 85 (.agg #[.int .i64 0, .int .u32 0, .int .i64 0, .int .i64 0]) 4 32 Try.underlying138 infoSlot3 rfl (by decide) _ _ _ (by rfl) (HO3.out.alloc _) _ 1 (rslot l (a + J * 11)).cells (by rfl) (rd_row (heap_alloc_last w2.drew (.cells (rslot l (a + J * 11)).cells.toArray 85 (0, 0))) rfl 1) (Slt.cells_one _) (by omega) (by decide) (by simp; omega) ?_; intro v4 w4 hown4 hbel4 hg4; obtain ⟨s4, c4, rfl⟩ := own_slice1 hown4; have HO4 := Lib.hid hown4; have HB4 := Lib.hid hbel4; have HG4 := Lib.hid hg4; clear hown4 hbel4 hg4)
        refine hK.out _ _ (by first | exact HKP.out _ (HAL.out.block pb hlt2) (HAL.out.block _ hltX) | exact HKP.out _ ((HG4.out.block pb (Nat.lt_of_lt_of_le hlt2 HAL.out.size) (fun e => (HNEQ.out pb e.symm).1 rfl)).trans (HAL.out.block pb hlt2)) ((HG4.out.block _ (Nat.lt_of_lt_of_le hltX HAL.out.size) (fun e => (HNEQ.out _ e.symm).2.1 rfl)).trans (HAL.out.block _ hltX))) (fun hHeld' => ?_)
        clear hK K hHeld
        have hHeld := hHeld'
        clear hHeld'
        try simp only [Act.put, List.setIfInBounds_toArray, List.set_cons_zero, List.set_cons_succ]
        refine take1F (i := 7) (v := ?_) (a' := ?_) (some 36) #[true, true, true, true, true, true, true, true, false] rfl rfl (by kernel_rfl) (fun _ _ _ h => h) (Or.inl ⟨by rfl, ?_⟩) hHeld ?_ ?_
        rotate_left
        · (intro w hSw; (try dsimp only at hSw); obtain ⟨hpc, hpf, x0, x1, x2, x3⟩ := hSw; go_simp; (try with_reducible rfl))
        rotate_left
        · simp only [Act.put, List.setIfInBounds_toArray, List.set_cons_zero, List.set_cons_succ]
          rfl
        refine last1F (none) #[true, true, true, true, true, true, true, true, true] rfl rfl (by kernel_rfl) (fun K hK => ?_)
        (obtain ⟨hpc, hpf, x0, x1, x2, x3⟩ := hHeld; go_simp)
        refine hK.out _ _ ?_
        clear hK K
        try simp only [Act.put, List.setIfInBounds_toArray, List.set_cons_zero, List.set_cons_succ]
        refine wpAnyF_done (by kernel_rfl) ?_ _
        have hb24 : Below wo.heap.size w2 w4 := (HAL.out.mono (Nat.le_of_lt (Nat.lt_of_le_of_lt hwoL hltX))).trans HB4.out
        have hkF : Keep (fun b => b = pb ∨ wo.heap.size ≤ b) w2 (w4.setCell ⟨pb, po, none⟩ (.slice s4 (J + 1) c4)) := (keepF hb24).setCell pb po _ (.inl rfl)
        have heq : a + (J + 1) * 11 = a + J * 11 + 11 := by omega
        have hC4 : w4.heap[pb]? = some (.cells (cs.setIfInBounds po (.slice s' J c')) T (0, 0)) := (hb24.block pb hpl).trans HC3.out
        have hown := HO4.out
        rw [← rowsOf_snoc, ← slots_snoc] at hown
        have hnew : LrSlt wo g v l a pb po cs T (.slice s4 (J + 1) c4) (J + 1) (w4.setCell ⟨pb, po, none⟩ (.slice s4 (J + 1) c4)) := by
          refine ⟨?_, ?_, ?_, ?_⟩
          · rw [heq]
            exact ⟨hkF.heap HF3.out.box (by omega), byt_keep HF3.out.byt hkF (fun hne b o n c e f => by rcases f with f | f; exact HV.out hne b o n c e f; exact HVA.out hne b o n c e f), HF3.out.apart⟩
          · have := head_set hC4 po (.slice s4 (J + 1) c4)
            rw [set_set2] at this
            exact this
          · exact own_move hown (fun k hk => Below.heap_setCell _ ⟨pb, po, none⟩ _ k (by have := (hown.lt k hk).1; show k ≠ pb; omega))
          · exact HK3.out.trans' hkF (fun i hi hf => by rcases hf with e | e; exact .inr e; omega)
        have hat1 : (w4.setCell ⟨pb, po, none⟩ (.slice s4 (J + 1) c4)).cell? ⟨g, 1, none⟩ = some (.int .i64 ((a + (J + 1) * 11 : Nat) : Int)) := cell_row hnew.form.box 1
        have hat0 : wr.cell? ⟨g, 1, none⟩ = some (.int .i64 ((a + J * 11 : Nat) : Int)) := HAT.out
        have HNEW := Lib.hid hnew
        have HAT1 := Lib.hid hat1
        have HAT0 := Lib.hid hat0
        clear hb24 hkF heq hC4 hown hnew hat1 hat0 HO4 HB4 HG4 HC3 HO3 HK3 HF3 HHS HKP HAL
        revert HNEW HAT1
        generalize w4.setCell ⟨pb, po, none⟩ (.slice s4 (J + 1) c4) = w5
        intro HNEW HAT1
        go_wp2
        go_roundw
        case rel => exact Lib.hid ⟨_, J + 1, HNEW.out, by omega, .inr (by rw [Nat.add_sub_cancel]; exact hlt)⟩
        case measure => rw [HAT1.out, HAT0.out]; simp [intOf]; omega
      · rw [decide_eq_false hlt] at HM
        have hlt3 : l.length ≤ a + J * 11 := by omega
        go_wp2_with (go_at_call 186; refine HM.out.mono ?_; rintro e w1 ⟨rfl, nq, rfl⟩)
        go_end0
        exact ⟨_, J, rfl, ⟨⟨HS.out.form.box, byt_keep (F := fun _ => False) HS.out.form.byt ((Keep.refl _ wr).drewN nq) (fun _ _ _ _ _ _ e => e), HS.out.form.apart⟩, HS.out.cell, HS.out.own, HS.out.keep.drewN nq⟩, hlt3, hJ2⟩
end Go.Proofs.Ytcpfafmkhegckaa
/-
  Codec: lists of slots: may they be, as sectors, and back.
-/
namespace Go.Proofs.Ytcpfafmkhegckaa
open Go.RowKit
set_option linter.unusedVariables false
set_option linter.unusedSimpArgs false
set_option linter.unnecessarySimpa false
def slotMay (x : Slt) : Bool := decide (0 ≤ x.kind ∧ x.kind ≤ 2)
set_option maxRecDepth 10000 in
set_option maxHeartbeats 4000000 in
theorem slotMay_any (x : Slt) (w : World) : Calls Try.prog 156 #[.agg x.cells.toArray] w fun e w' => e = .returned (.bool (slotMay x)) ∧ Below w.heap.size w w' := by
  obtain ⟨y0, y1, y2, y3⟩ := x
  have hc : (Slt.mk y0 y1 y2 y3).cells.toArray = #[.int .i64 y0, .int .u32 (y1 : Int), .int .i64 y2, .int .i64 y3] := rfl
  rw [hc]
  have HA := fun w' => Lib.hid (among_any y3 0 2 w')
  obtain ⟨m, hm⟩ : ∃ m, slotMay ⟨y0, y1, y2, y3⟩ = m := ⟨_, rfl⟩
  have hm' : decide (0 ≤ y3 ∧ y3 ≤ 2) = m := hm
  rw [hm'] at HA
  rw [hm]
  have HB := Lib.hid (show Below w.heap.size w (w.alloc (.cells #[.int .i64 y0, .int .u32 (y1 : Int), .int .i64 y2, .int .i64 y3] 85 (0, 0))) from (Below.refl _ _).alloc (Nat.le_refl _) _)
  clear hm hm' hc
  go_enter Try.func156, Try.ntmps156
  go_wp2_with (go_at_call 119; refine (HA _).out.mono ?_; rintro e w' ⟨rfl, rfl⟩)
  go_ret
  exact ⟨rfl, HB.out⟩
/-- May all of them be, and are they few enough? -/
def slotsMay (L : List Slt) : Bool := L.all slotMay && decide (L.length ≤ 10)
set_option maxRecDepth 10000 in
set_option maxHeartbeats 8000000 in
theorem slotEach_any (L : List Slt) (A : Option Addr) (c p1 p2 : Nat) (w : World) (hf : w.cell? ⟨p1, 0, none⟩ = some (.func (.func 156) #[] #[])) (hm : w.cell? ⟨p2, 0, none⟩ = some (.int .i64 10)) (hR : ReadAt w A Slt.cells 4 L) (hL : L.length ≤ 140737488355328) :
    Calls Try.prog 162 #[.slice A L.length c, .pointer (some ⟨p1, 0, none⟩), .pointer (some ⟨p2, 0, none⟩)] w fun e w' => e = .returned (.bool (slotsMay L)) ∧ Below w.heap.size w w' := by
  have hp1 := World.block_lt_of_cell? w _ hf
  have hp2 := World.block_lt_of_cell? w _ hm
  dsimp only at hp1 hp2
  have HF := Lib.hid hf
  have HM := Lib.hid hm
  have HR := Lib.hid hR
  have HMA := fun x W => Lib.hid (slotMay_any x W)
  clear hf hm hR
  go_enter Try.func162, Try.ntmps162
  go_wp2
  go_loopw [9] (fun i wr => ∃ k : Nat, k ≤ L.length ∧ i = .int .i64 (k : Int) ∧ Hid ((L.take k).all slotMay = true) ∧ Hid (Below w.heap.size w wr)) (fun i _ => (L.length - intOf i).toNat)
  case atStart => exact ⟨0, by omega, rfl, Lib.hid rfl, Lib.hid (Below.refl _ _)⟩
  case round =>
    obtain ⟨k, hk, rfl, HK, HB⟩ := hrel
    have hf := (HB.out.cell (p := ⟨p1, 0, none⟩) hp1).trans HF.out
    have hm := (HB.out.cell (p := ⟨p2, 0, none⟩) hp2).trans HM.out
    by_cases hlt : k < L.length
    · obtain ⟨x, hx⟩ : ∃ x, L[k]? = some x := ⟨_, List.getElem?_eq_getElem hlt⟩
      obtain ⟨b, o, rfl, hr⟩ := rows_at Slt.cells_len HR.out hx
      have hbl : b < w.heap.size := World.block_lt_of_cell? w ⟨b, o + k * 4 + 0, none⟩ (hr 0 _ rfl)
      have hr2 : wr.rangeAt b (o + k * 4) x.cells := fun j u hu => (HB.out.cell (p := ⟨b, o + k * 4 + j, none⟩) hbl).trans (hr j u hu)
      have HX := Lib.hid hx
      obtain ⟨y0, y1, y2, y3⟩ := x
      have e0 : wr.cell? ⟨b, o + k * 4, none⟩ = some (.int .i64 y0) := hr2 0 _ rfl
      have e1 : wr.cell? ⟨b, o + k * 4 + 1, none⟩ = some (.int .u32 (y1 : Int)) := hr2 1 _ rfl
      have e2 : wr.cell? ⟨b, o + k * 4 + 2, none⟩ = some (.int .i64 y2) := hr2 2 _ rfl
      have e3 : wr.cell? ⟨b, o + k * 4 + 3, none⟩ = some (.int .i64 y3) := hr2 3 _ rfl
      have hmx := fun W => (HMA ⟨y0, y1, y2, y3⟩ W)
      have hcc : (Slt.mk y0 y1 y2 y3).cells.toArray = #[.int .i64 y0, .int .u32 (y1 : Int), .int .i64 y2, .int .i64 y3] := rfl
      obtain ⟨q, hq⟩ : ∃ q, slotMay ⟨y0, y1, y2, y3⟩ = q := ⟨_, rfl⟩
      simp only [hcc, hq] at hmx
      have HQ := Lib.hid hq
      have hba : Below wr.heap.size wr (wr.alloc (.cells #[.int .i64 y0, .int .u32 (y1 : Int), .int .i64 y2, .int .i64 y3] 85 (0, 0))) := (Below.refl _ _).alloc (Nat.le_refl _) _
      have HBA := Lib.hid (HB.out.trans (hba.mono HB.out.size))
      have hf2 := (hba.cell (p := ⟨p1, 0, none⟩) (Nat.lt_of_lt_of_le hp1 HB.out.size)).trans hf
      have hm2 := (hba.cell (p := ⟨p2, 0, none⟩) (Nat.lt_of_lt_of_le hp2 HB.out.size)).trans hm
      clear hr hr2 hx hcc hq hba
      cases q with
      | true =>
        go_wp2_with (go_at_call 156; go_must (refine (hmx _).out.mono ?_; rintro e w2 ⟨rfl, hb2⟩; have HB2 := Lib.hid (HBA.out.trans (hb2.mono HBA.out.size)); clear hb2))
        have HK2 : Hid ((L.take (k + 1)).all slotMay = true) := Lib.hid (by
          obtain ⟨hk3, e3⟩ := List.getElem?_eq_some_iff.1 HX.out
          rw [List.take_succ_eq_append_getElem hk3, List.all_append, HK.out, e3]
          simp [HQ.out])
        go_roundw
        case rel => exact ⟨k + 1, by omega, by go_num, HK2, HB2⟩
        case measure => simp [intOf]; omega
      | false =>
        have hno : slotsMay L = false := by
          unfold slotsMay
          have : L.all slotMay = false := by rw [List.all_eq_false]; exact ⟨_, List.mem_of_getElem? HX.out, by rw [HQ.out]; simp⟩
          rw [this]; rfl
        have HNO := Lib.hid hno
        clear hno
        go_wp2_with (go_at_call 156; go_must (refine (hmx _).out.mono ?_; rintro e w2 ⟨rfl, hb2⟩; have HB2 := Lib.hid (HBA.out.trans (hb2.mono HBA.out.size)); clear hb2))
        go_ret
        exact ⟨by rw [HNO.out]; rfl, HB2.out⟩
    · obtain rfl : k = L.length := by omega
      have hall := HK.out
      rw [List.take_length] at hall
      have hyes : slotsMay L = decide ((L.length : Int) ≤ 10) := by unfold slotsMay; rw [hall, Bool.true_and, decide_eq_decide]; omega
      have HYES := Lib.hid hyes
      clear hall hyes
      go_wp2
      go_ret
      exact ⟨by rw [HYES.out]; rfl, HB.out⟩
set_option maxRecDepth 10000 in
set_option maxHeartbeats 4000000 in
theorem slotsEach_any (f : Value) (hf1 : f.oneCell' = true) (w : World) : Calls Try.prog 155 #[.int .i64 10, f] w fun e w' => e = .returned (.func (.func 162) #[] #[.pointer (some ⟨w.heap.size + 1, 0, none⟩), .pointer (some ⟨w.heap.size, 0, none⟩)]) ∧ w' = (w.alloc (.cells #[.int .i64 10] 3 (0, 0))).alloc (.cells #[f] 164 (0, 0)) := by
  have hmf : ∀ (fn : Fn) (first cap : Array Value) (w : World), (Instr.makeFunc fn first cap).run Try.prog w = .ok (.func fn first cap) w := fun _ _ _ _ => rfl
  go_enter Try.func155, Try.ntmps155
  go_wp2
  go_ret
  exact ⟨rfl, rfl⟩
set_option maxRecDepth 10000 in
set_option maxHeartbeats 4000000 in
theorem slotsMay_any (L : List Slt) (A : Option Addr) (c : Nat) (w : World) (hR : ReadAt w A Slt.cells 4 L) (hL : L.length ≤ 140737488355328) :
    Calls Try.prog 124 #[.slice A L.length c] w fun e w' => e = .returned (.bool (slotsMay L)) ∧ Below w.heap.size w w' := by
  have hb2 : Below w.heap.size w ((w.alloc (.cells #[.int .i64 10] 3 (0, 0))).alloc (.cells #[.func (.func 156) #[] #[]] 164 (0, 0))) := ((Below.refl _ _).alloc (Nat.le_refl _) _).alloc (by simp) _
  have hG2 := old_heap (heap_alloc_last w (.cells #[.int .i64 10] 3 (0, 0))) ((Below.refl _ _).alloc (Nat.le_refl _) (.cells #[.func (.func 156) #[] #[]] 164 (0, 0)))
  have hT2 := heap_alloc_last (w.alloc (.cells #[.int .i64 10] 3 (0, 0))) (.cells #[.func (.func 156) #[] #[]] 164 (0, 0))
  rw [show (w.alloc (.cells #[.int .i64 10] 3 (0, 0))).heap.size = w.heap.size + 1 by simp] at hT2
  have HE := Lib.hid (slotsEach_any (.func (.func 156) #[] #[]) rfl w)
  have HM := Lib.hid (slotEach_any L A c (w.heap.size + 1) w.heap.size _ (cell_row hT2 0) (cell_row hG2 0) (hR.below Slt.cells_len hb2) hL)
  have HB := Lib.hid hb2
  clear hb2 hG2 hT2 hR
  revert HE HM HB
  generalize hw2 : (w.alloc (.cells #[.int .i64 10] 3 (0, 0))).alloc (.cells #[.func (.func 156) #[] #[]] 164 (0, 0)) = w2
  intro HE HM HB
  have HW := Lib.hid hw2
  clear hw2
  go_enter Try.func124, Try.ntmps124
  go_wp2_with (first
    | (go_at_call 155; go_must (refine HE.out.mono ?_; rintro e w3 ⟨rfl, rfl⟩))
    | (go_at_call 162; go_must (refine HM.out.mono ?_; rintro e w4 ⟨rfl, hb4⟩; have HB4 := Lib.hid (bnext HB.out hb4); clear hb4)))
  go_ret
  exact ⟨rfl, HB4.out⟩
/-- The pass of a list. -/
theorem pw_slots {w : World} {base g : Nat} {l : List UInt8} {bad : Bool} (L : List Slt) (A : Option Addr) (c : Nat) (pb po : Nat) (h : CwAt w base g l bad) (hc : w.cell? ⟨pb, po, none⟩ = some (.slice A L.length c)) (hR : ReadAt w A Slt.cells 4 L)
    (hA : ∀ a, A = some a → a.block < base) (hpb : pb < base) (hok : ∀ x ∈ L, x.Ok) (hl : l.length ≤ 1000) (hL : L.length ≤ 1000) (hbs : base ≤ w.heap.size) :
    Calls Try.prog 123 #[wV g, .pointer (some ⟨pb, po, none⟩)] w (CwTo w base g (l ++ fB (slotAll L)) (bad || fBad (slotAll L))) := by
  have HL := Lib.hid (lw_slot L A c pb po h hc hR hA hpb hok hl hL hbs)
  unfold CwTo at HL ⊢
  clear h hc hR
  unfold wV at HL ⊢
  go_enter Try.func123, Try.ntmps123
  go_wp2_with (go_at_call 153; go_must (refine HL.out.mono ?_; rintro e w2 ⟨rfl, h2⟩; have H2 := Lib.hid h2; clear h2))
  go_end0
  exact ⟨rfl, H2.out⟩
theorem pr_slots {w : World} {g : Nat} {v : Value} {l : List UInt8} (a pb po : Nat) (cs : Array Value) (T : TypeId) (h : CrAt w g v l a (decide (l.length < a))) (hl : l.length ≤ 255) (ha : a ≤ 400) (hb : w.heap[pb]? = some (.cells cs T (0, 0))) (hc : cs[po]? = some (.slice none 0 0)) (hpg : pb ≠ g) (hv : Apart (· = pb) v l) :
    Calls Try.prog 123 #[rV g, .pointer (some ⟨pb, po, none⟩)] w fun e w' => ∃ v' J, e = .returned (.tuple #[]) ∧ LrSlt w g v l a pb po cs T v' J w' ∧ l.length ≤ a + J * 11 ∧ (J = 0 ∨ a + (J - 1) * 11 < l.length) := by
  have HL := Lib.hid (lr_slot a pb po cs T h hl ha hb hc hpg hv)
  clear h hb hc hv
  unfold rV at HL ⊢
  go_enter Try.func123, Try.ntmps123
  go_wp2_with (go_at_call 153; go_must (refine HL.out.mono ?_; rintro e w2 ⟨v', J, rfl, h2⟩; have H2 := Lib.hid h2; clear h2))
  go_end0
  exact ⟨v', J, rfl, H2.out⟩
end Go.Proofs.Ytcpfafmkhegckaa
/-
  Codec: lists of slots as sectors, and back: the program's.
-/
namespace Go.Proofs.Ytcpfafmkhegckaa
open Go.RowKit
set_option linter.unusedVariables false
set_option linter.unusedSimpArgs false
set_option linter.unnecessarySimpa false
set_option maxRecDepth 10000 in
set_option maxHeartbeats 8000000 in
theorem wrl_slot (kind : UInt8) (A : Option Addr) (nl c : Nat) (mayb : Bool) (L : List UInt8) (bad : Bool) (w : World)
    (hm : ∀ w', Below w.heap.size w w' → Calls Try.prog 124 #[.slice A nl c] w' fun e w'' => e = .returned (.bool mayb) ∧ Below w'.heap.size w' w'')
    (hp : ∀ w' base g pb, Below w.heap.size w w' → CwAt w' base g [] false → w'.heap[pb]? = some (.cells #[.slice A nl c] 138 (0, 0)) → base ≤ w'.heap.size → pb < base → w.heap.size ≤ base → Calls Try.prog 123 #[wV g, .pointer (some ⟨pb, 0, none⟩)] w' (CwTo w' base g L bad)) :
    Calls Try.prog 139 #[.int .u8 (kind.toNat : Int), .slice A nl c, .func (.func 123) #[] #[], .func (.func 124) #[] #[]] w (WrS w kind (mayb && !bad) L) := by
  have HM := Lib.hid hm
  have HP := Lib.hid hp
  clear hm hp
  go_enter Try.func139, Try.ntmps139
  go_upto_region 2 with fail
  have hA := a3 w (.cells #[.slice A nl c] 138 (0, 0)) (.cells Try.zeroCells36 36 (0, 0)) (.cells #[.slice none 0 0, .bool false] 198 (0, 0))
  revert hA
  generalize ((w.alloc (.cells #[.slice A nl c] 138 (0, 0))).alloc (.cells Try.zeroCells36 36 (0, 0))).alloc (.cells #[.slice none 0 0, .bool false] 198 (0, 0)) = w2
  intro hA
  have HA := Lib.hid hA
  clear hA
  have c5 : w2.cell? ⟨w.heap.size, 0, none⟩ = some (.slice A nl c) := cell_row HA.out.h0 0
  cases mayb with
  | false =>
    go_wp2_with (first
      | (go_at_call 124; refine (HM.out w2 HA.out.bel).mono ?_; rintro e w3 ⟨rfl, hb3⟩; have HT := Lib.hid (old_heap HA.out.h1 hb3); have HB := Lib.hid (bnext HA.out.bel hb3); clear hb3)
      | (refine wpList_store_row rfl 36 (.tmp 8) (.tmp 17) rfl (w.heap.size + 1) zArr zArr 36 rfl rfl HT.out (by rw [zArr_size]; exact size_sec) rfl zArr_one ?_))
    have hld := run_loadVar_row (P := Try.prog) (w3.setRow (w.heap.size + 1) zArr) (w.heap.size + 1) 36 36 zArr (0, 0) _ (setRow_heap _ _ _ _ _ _ HT.out) Try.underlying36 (by simp) (by rw [zArr_size]; exact size_sec)
    exact bodyPost_ret (v := .tuple #[secV (List.replicate 128 0), .int .i64 1]) (results_cell2 Try.results139 rfl rfl hld) rfl (wrS_no rfl rfl (below_row HB.out (by omega)))
  | true =>
    go_upto_region 4 with (first
      | (go_at_call 124; refine (HM.out w2 HA.out.bel).mono ?_; rintro e w3 ⟨rfl, hb3⟩; have HB := Lib.hid (bnext HA.out.bel hb3); have HX := Lib.hid (old_heap HA.out.h0 hb3); have HT := Lib.hid (old_heap HA.out.h1 hb3); have HG := Lib.hid (old_heap HA.out.h2 hb3); clear hb3))
    have hgl := (Array.getElem?_eq_some_iff.1 HG.out).1
    have hcw : CwAt w3 (w.heap.size + 1 + 1) (w.heap.size + 1 + 1) [] false := ⟨.slice none 0 0, HG.out, own_none _ _ _, Nat.le_refl _, fun k hk => by cases hk⟩
    have hpp := HP.out w3 (w.heap.size + 1 + 1) (w.heap.size + 1 + 1) w.heap.size HB.out hcw HX.out (by omega) (by omega) (by omega)
    unfold CwTo wV at hpp
    have HPP := Lib.hid hpp
    clear hpp hcw hgl
    go_upto_region 5 with (go_at_call 123; refine HPP.out.mono ?_; rintro e w4 ⟨rfl, hcw, hb4⟩; have HB4 := Lib.hid (HB.out.trans (hb4.mono (by omega))); have HT4 := Lib.hid ((hb4.block (w.heap.size + 1) (by omega)).trans HT.out); have HCW := Lib.hid hcw; clear hcw hb4)
    obtain ⟨v4, hg4, ho4, -, -⟩ := HCW.out
    obtain ⟨sp4, cp4, rfl⟩ := own_slice1 ho4
    have HMK := Lib.hid (make_any kind _ L w4 (own_byt ho4).1)
    have c0 : w4.cell? ⟨w.heap.size + 1 + 1, 0, none⟩ = some (.slice sp4 L.length cp4) := cell_row hg4 0
    have c1 : w4.cell? ⟨w.heap.size + 1 + 1, 1, none⟩ = some (.bool bad) := cell_row hg4 1
    have hms : (bvs (makeS kind L)).toArray.size = 128 := by rw [secV_size, makeS_length]
    have HMS := Lib.hid hms
    clear hg4 ho4 HPP HCW HX HG HM HP hms
    cases bad with
    | true =>
      go_wp2_with (refine wpList_store_row rfl 36 (.tmp 8) (.tmp 26) rfl (w.heap.size + 1) zArr zArr 36 rfl rfl HT4.out (by rw [zArr_size]; exact size_sec) rfl zArr_one ?_)
      have hld := run_loadVar_row (P := Try.prog) (w4.setRow (w.heap.size + 1) zArr) (w.heap.size + 1) 36 36 zArr (0, 0) _ (setRow_heap _ _ _ _ _ _ HT4.out) Try.underlying36 (by simp) (by rw [zArr_size]; exact size_sec)
      exact bodyPost_ret (v := .tuple #[secV (List.replicate 128 0), .int .i64 1]) (results_cell2 Try.results139 rfl rfl hld) rfl (wrS_no rfl rfl (below_row HB4.out (by omega)))
    | false =>
      obtain ⟨S, hS⟩ : ∃ S, makeS kind L = S := ⟨_, rfl⟩
      obtain ⟨N, hN⟩ : ∃ N, makeE kind L = N := ⟨_, rfl⟩
      rw [hS, hN] at HMK
      rw [hS] at HMS
      have HS := Lib.hid hS
      have HN := Lib.hid hN
      clear hS hN
      unfold secV at HMK
      go_wp2_with (first
        | (go_at_call 53; refine HMK.out.mono ?_; rintro e w5 ⟨rfl, hb5⟩; have HT5 := Lib.hid (old_heap HT4.out hb5); have HB5 := Lib.hid (bnext HB4.out hb5); clear hb5)
        | (refine wpList_store_row rfl 36 (.tmp 8) (.tmp 33) rfl (w.heap.size + 1) zArr (bvs S).toArray 36 rfl rfl HT5.out (by rw [HMS.out]; exact size_sec) (by rw [HMS.out, zArr_size]) (sec_one _) ?_))
      have hld := run_loadVar_row (P := Try.prog) (w5.setRow (w.heap.size + 1) (bvs S).toArray) (w.heap.size + 1) 36 36 (bvs S).toArray (0, 0) _ (setRow_heap _ _ _ _ _ _ HT5.out) Try.underlying36 (by simp) (by rw [HMS.out]; exact size_sec)
      exact bodyPost_ret (v := .tuple #[secV S, .int .i64 N]) (results_cell2 Try.results139 rfl rfl hld) rfl (wrS_yes rfl (by rw [HS.out, HN.out]) (below_row HB5.out (by omega)))
theorem wrs_slot (L : List Slt) (A : Option Addr) (c : Nat) (w : World) (hR : ReadAt w A Slt.cells 4 L) (hA : ∀ a, A = some a → a.block < w.heap.size) (hok : ∀ x ∈ L, x.Ok) (hL : L.length ≤ 1000) :
    Calls Try.prog 139 #[.int .u8 4, .slice A L.length c, .func (.func 123) #[] #[], .func (.func 124) #[] #[]] w (WrS w 4 (slotsMay L && !fBad (slotAll L)) (fB (slotAll L))) :=
  wrl_slot 4 A L.length c (slotsMay L) (fB (slotAll L)) (fBad (slotAll L)) w (fun w' hb => slotsMay_any L A c w' (hR.below Slt.cells_len hb) (by omega))
    (fun w' base g pb hb hcw hpb hbs hpl hwb => by
      have := pw_slots L A c pb 0 hcw (cell_row hpb 0) (hR.below Slt.cells_len hb) (fun a ha => Nat.lt_of_lt_of_le (hA a ha) hwb) hpl hok (by simp) hL hbs
      simpa using this)
def slotRdOk (l : List UInt8) : Bool := (openB l && decide (openK l = 4)) && (decide ((openL l).length % 11 = 0) && slotsMay (slots (openL l) 0 ((openL l).length / 11)))
def slotRdL (l : List UInt8) : List Slt := if slotRdOk l then slots (openL l) 0 ((openL l).length / 11) else []
/-- What reading comes to. -/
def RlSlt (w : World) (l : List UInt8) (e : Ending) (w' : World) : Prop :=
  ∃ v', e = .returned (.tuple #[v', .int .i64 (if slotRdOk l then 0 else 21)]) ∧ w'.ownsRow w.heap.size 85 4 v' (slotRdL l).length (rowsOf Slt.cells (slotRdL l)) ∧ Below w.heap.size w w'
theorem rlSlt_no {w w' : World} {l : List UInt8} {e : Ending} (h : slotRdOk l = false) (he : e = .returned (.tuple #[.slice none 0 0, .int .i64 21])) (hb : Below w.heap.size w w') : RlSlt w l e w' := by
  unfold RlSlt slotRdL
  rw [h]
  exact ⟨_, he, own_nilk _ _ _ _, hb⟩
theorem rlSlt_yes {w w' : World} {l : List UInt8} {e : Ending} {v' : Value} {L : List Slt} (h : slotRdOk l = true) (hL : slots (openL l) 0 ((openL l).length / 11) = L) (he : e = .returned (.tuple #[v', .int .i64 0])) (ho : w'.ownsRow w.heap.size 85 4 v' L.length (rowsOf Slt.cells L)) (hb : Below w.heap.size w w') : RlSlt w l e w' := by
  unfold RlSlt slotRdL
  rw [h, if_pos rfl, if_pos rfl, hL]
  exact ⟨_, he, ho, hb⟩
set_option maxRecDepth 10000 in
set_option maxHeartbeats 8000000 in
theorem rdl_slot (l : List UInt8) (w : World) (hl : l.length = 128) :
    Calls Try.prog 122 #[.int .u8 4, secV l, .func (.func 123) #[] #[], .func (.func 124) #[] #[]] w (RlSlt w l) := by
  have HSZ : Hid ((bvs l).toArray.size = 128) := by unfold Hid; rw [secV_size, hl]
  have HBL := Lib.hid (openL_le l)
  have hop := fun w' => open_any l w' hl
  obtain ⟨k, hk⟩ : ∃ k, openK l = k := ⟨_, rfl⟩
  obtain ⟨b, hb⟩ : ∃ b, openL l = b := ⟨_, rfl⟩
  obtain ⟨oe, hoe⟩ : ∃ oe, openE l = oe := ⟨_, rfl⟩
  rw [hk, hb, hoe] at hop
  rw [hb] at HBL
  have hokd : slotRdOk l = ((openB l && decide (k = 4)) && (decide (b.length % 11 = 0) && slotsMay (slots b 0 (b.length / 11)))) := by unfold slotRdOk; rw [hk, hb]
  have HOKD := Lib.hid hokd
  have HBE := Lib.hid hb
  have HOP := fun w' => Lib.hid (hop w')
  have HOE := Lib.hid hoe
  clear hop hk hb hoe hl hokd
  unfold secV at HOP ⊢
  unfold OpTo at HOP
  have hB2 : Below w.heap.size w ((w.alloc (.cells (bvs l).toArray 36 (0, 0))).alloc (.cells #[.slice none 0 0] 138 (0, 0))) := ((Below.refl _ _).alloc (Nat.le_refl _) _).alloc (by simp) _
  have hG2 := old_heap (heap_alloc_last w (.cells (bvs l).toArray 36 (0, 0))) ((Below.refl _ _).alloc (Nat.le_refl _) (.cells #[.slice none 0 0] 138 (0, 0)))
  have hT2 := heap_alloc_last (w.alloc (.cells (bvs l).toArray 36 (0, 0))) (.cells #[.slice none 0 0] 138 (0, 0))
  rw [show (w.alloc (.cells (bvs l).toArray 36 (0, 0))).heap.size = w.heap.size + 1 by simp] at hT2
  have hS2 : ((w.alloc (.cells (bvs l).toArray 36 (0, 0))).alloc (.cells #[.slice none 0 0] 138 (0, 0))).heap.size = w.heap.size + 1 + 1 := by simp
  have HB2 := Lib.hid hB2
  have HG2 := Lib.hid hG2
  have HT2 := Lib.hid hT2
  have HS2 := Lib.hid hS2
  clear hB2 hG2 hT2 hS2
  go_enter Try.func122, Try.ntmps122
  go_upto_region 2 with fail
  revert HB2 HG2 HT2 HS2
  generalize (w.alloc (.cells (bvs l).toArray 36 (0, 0))).alloc (.cells #[.slice none 0 0] 138 (0, 0)) = w2
  intro HB2 HG2 HT2 HS2
  go_upto_region 3 with (first
    | (refine wpList_load_row rfl 36 (.tmp 5) rfl w.heap.size rfl _ _ _ _ HG2.out Try.underlying36 rfl (by rw [HSZ.out]; exact size_sec) ?_)
    | (go_at_call 58; refine (HOP _).out.mono ?_; rintro e w3 ⟨v, rfl, ho3, hb3⟩; obtain ⟨sp, cp, rfl⟩ := own_slice1 ho3; have HO3 := Lib.hid ho3; have HBF := Lib.hid (bnext HB2.out hb3); have HX := Lib.hid (old_heap HT2.out hb3); have HZ3 := Lib.hid (show w.heap.size + 1 + 1 ≤ w3.heap.size from by rw [← HS2.out]; exact hb3.size); clear ho3 hb3))
  clear HOP HG2 HT2 HB2
  cases ho : openB l with
  | false =>
    obtain rfl : oe = 21 := by rw [← HOE.out]; unfold openE; rw [ho]; rfl
    have hno : slotRdOk l = false := by rw [HOKD.out, ho]; rfl
    have HNO := Lib.hid hno
    clear hno
    go_wp2
    go_ret2
    exact rlSlt_no HNO.out rfl HBF.out
  | true =>
    obtain rfl : oe = 0 := by rw [← HOE.out]; unfold openE; rw [ho]; rfl
    by_cases hk : k = 4
    · subst hk
      go_upto_region 6 with fail
      have hg4 := heap_alloc_last w3 (.cells #[.slice sp b.length cp, .int .i64 0, .bool false] 242 (0, 0))
      have hb4 : Below w3.heap.size w3 (w3.alloc (.cells #[.slice sp b.length cp, .int .i64 0, .bool false] 242 (0, 0))) := (Below.refl _ _).alloc (Nat.le_refl _) _
      revert hg4 hb4
      generalize w3.alloc (.cells #[.slice sp b.length cp, .int .i64 0, .bool false] 242 (0, 0)) = w4
      intro hg4 hb4
      have hcr : CrAt w4 w3.heap.size (.slice sp b.length cp) b 0 (decide (b.length < 0)) := ⟨by simpa using hg4, (own_byt HO3.out).1.below hb4, byt_apart (own_byt HO3.out).1⟩
      have hap : Apart (· = w.heap.size + 1) (.slice sp b.length cp) b := own_apart HO3.out (by have := HS2.out; omega)
      have HPP := Lib.hid (pr_slots 0 (w.heap.size + 1) 0 #[.slice none 0 0] 138 hcr HBL.out (by decide) (old_heap HX.out hb4) rfl (by have := HZ3.out; omega) hap)
      unfold rV at HPP
      have HB4 := Lib.hid (bnext HBF.out hb4)
      have HS4 := Lib.hid hb4.size
      clear hg4 hb4 hcr hap HX HBF
      go_upto_region 7 with (go_at_call 123; go_must (refine HPP.out.mono ?_; rintro e w5 ⟨v', J, rfl, hlr, hJ1, hJ2⟩; have HLR := Lib.hid hlr; have HJ1 := Lib.hid hJ1; have HJ2 := Lib.hid hJ2; clear hlr hJ1 hJ2))
      clear HPP
      have hcp := HLR.out.form
      have hown := HLR.out.own
      have hcell := HLR.out.cell
      have hBF : Below w.heap.size w w5 := keep_below2 HB4.out HLR.out.keep (Nat.le_refl _) (by have := HZ3.out; omega) (by omega)
      have HBF := Lib.hid hBF
      clear hBF
      obtain ⟨s', c', rfl⟩ := own_slice1 hown
      rw [Nat.zero_add] at hcp
      have HJ1' : Hid (b.length ≤ J * 11) := Lib.hid (by have := HJ1.out; omega)
      have c0 : w5.cell? ⟨w3.heap.size, 0, none⟩ = some (.slice sp b.length cp) := cell_row hcp.box 0
      have c1 : w5.cell? ⟨w3.heap.size, 1, none⟩ = some (.int .i64 ((J * 11 : Nat) : Int)) := cell_row hcp.box 1
      have c2 : w5.cell? ⟨w3.heap.size, 2, none⟩ = some (.bool (decide (b.length < J * 11))) := cell_row hcp.box 2
      have cx : w5.cell? ⟨w.heap.size + 1, 0, none⟩ = some (.slice s' J c') := cell_row hcell 0
      obtain ⟨m, hm⟩ : ∃ m, J * 11 = m := ⟨_, rfl⟩
      rw [hm] at c1 c2
      have HMM := Lib.hid hm
      by_cases hat : m = b.length
      · have hbd : decide (b.length < m) = false := by rw [decide_eq_false_iff_not]; omega
        rw [hbd] at c2
        have hatI : ((m : Int) != (b.length : Int)) = false := by simp [hat]
        have hdiv : b.length / 11 = J := by rw [← hat, ← hm]; exact Nat.mul_div_cancel _ (by decide)
        have hmod : b.length % 11 = 0 := by rw [← hat, ← hm]; exact Nat.mul_mod_left _ _
        have hokd : slotRdOk l = slotsMay (slots b 0 J) := by rw [HOKD.out, ho, hmod, hdiv]; simp
        have hrl : ReadAt w5 s' Slt.cells 4 (slots b 0 J) := by
          obtain ⟨A9, c9, e9, -, -, -, h9, -⟩ := own_rows (F := fun _ => False) Slt.cells_len hown (slots_len b 0 J).symm (fun _ _ => id)
          injection e9 with e9
          subst e9
          exact h9
        have hmy := slotsMay_any (slots b 0 J) s' c' w5 hrl (by rw [slots_len]; have := HBL.out; omega)
        rw [slots_len] at hmy
        have HOK2 := Lib.hid hokd
        have HDIV := Lib.hid hdiv
        obtain ⟨q, hq⟩ : ∃ q, slotsMay (slots b 0 J) = q := ⟨_, rfl⟩
        rw [hq] at hmy HOK2
        have HMY := Lib.hid hmy
        have HOWN := Lib.hid hown
        have HCELL := Lib.hid hcell
        clear hcp hown hcell hm hat hbd hdiv hmod hokd hrl hmy hq
        cases q with
        | true =>
          go_wp2_with (go_at_call 124; go_must (refine HMY.out.mono ?_; rintro e w6 ⟨rfl, hb6⟩; have cx6 : w6.cell? ⟨w.heap.size + 1, 0, none⟩ = some (.slice s' J c') := cell_row (old_heap HCELL.out hb6) 0; have HB6 := Lib.hid (bnext HBF.out hb6); have HO6 := Lib.hid (own_below HOWN.out hb6); clear hb6))
          go_ret2
          exact rlSlt_yes HOK2.out (by rw [HBE.out, HDIV.out]) rfl (by rw [slots_len]; exact own_low HO6.out (Nat.le_trans (by have := HZ3.out; omega) HS4.out)) HB6.out
        | false =>
          have HNO := HOK2
          go_wp2_with (go_at_call 124; go_must (refine HMY.out.mono ?_; rintro e w6 ⟨rfl, hb6⟩; have HB6 := Lib.hid (bnext HBF.out hb6); clear hb6))
          go_ret2
          exact rlSlt_no HNO.out rfl HB6.out
      · have hlt : b.length < m := by have := HJ1'.out; omega
        rw [decide_eq_true hlt] at c2
        have hno : slotRdOk l = false := by
          have h1 : b.length % 11 ≠ 0 := by
            rcases HJ2.out with h | h
            · subst h; omega
            · have hJ0 : J ≠ 0 := fun e => by subst e; omega
              obtain ⟨j, rfl⟩ : ∃ j, J = j + 1 := ⟨J - 1, by omega⟩
              rw [Nat.add_sub_cancel, Nat.zero_add] at h
              exact mod_ne (j := j) (m := 11) h (by omega) (Nat.le_refl _)
          rw [HOKD.out, decide_eq_false h1]; simp
        have HNO := Lib.hid hno
        clear hcp hown hcell hm hat hlt hno
        go_wp2
        go_ret2
        exact rlSlt_no HNO.out rfl HBF.out
    · have hkk : ((k.toNat : Int) != 4) = true := kind_ne k 4 hk
      have hno : slotRdOk l = false := by rw [HOKD.out]; simp [hk]
      have HNO := Lib.hid hno
      clear hk hno
      go_wp2
      go_ret2
      exact rlSlt_no HNO.out rfl HBF.out
set_option maxRecDepth 10000 in
set_option maxHeartbeats 4000000 in
theorem writeSlots_any (L : List Slt) (A : Option Addr) (c : Nat) (w : World) (hR : ReadAt w A Slt.cells 4 L) (hA : ∀ a, A = some a → a.block < w.heap.size) (hok : ∀ x ∈ L, x.Ok) (hL : L.length ≤ 1000) :
    Calls Try.prog 91 #[.slice A L.length c] w (WrS w 4 (slotsMay L && !fBad (slotAll L)) (fB (slotAll L))) := by
  have hb1 : Below w.heap.size w (w.alloc (.cells Try.zeroCells36 36 (0, 0))) := (Below.refl _ _).alloc (Nat.le_refl _) _
  have HWR := Lib.hid (wrs_slot L A c _ (hR.below Slt.cells_len hb1) (fun a ha => Nat.lt_of_lt_of_le (hA a ha) hb1.size) hok hL)
  have HT1 := Lib.hid (heap_alloc_last w (.cells Try.zeroCells36 36 (0, 0)))
  have HB1 := Lib.hid hb1
  obtain ⟨ok, hok'⟩ : ∃ ok, (slotsMay L && !fBad (slotAll L)) = ok := ⟨_, rfl⟩
  obtain ⟨B, hB⟩ : ∃ B, fB (slotAll L) = B := ⟨_, rfl⟩
  rw [hok', hB] at HWR
  rw [hok', hB]
  have hS : (bvs (wrS 4 ok B)).toArray.size = 128 := by rw [secV_size, wrS_length]
  have HSS := Lib.hid hS
  clear hb1 hR hA hok hok' hB hS
  unfold WrS at HWR
  go_enter Try.func91, Try.ntmps91
  go_upto_region 1 with fail
  revert HT1 HB1 HWR
  generalize w.alloc (.cells Try.zeroCells36 36 (0, 0)) = w1
  intro HT1 HB1 HWR
  go_wp2_with (first
    | (go_at_call 139; go_must (refine HWR.out.mono ?_; rintro e w2 ⟨rfl, hb2⟩; unfold secV; have HT2 := Lib.hid (old_heap HT1.out hb2); have HB2 := Lib.hid (bnext HB1.out hb2); clear hb2))
    | (refine wpList_store_row rfl 36 (.tmp 2) (.tmp 6) rfl w.heap.size zArr (bvs (wrS 4 ok B)).toArray 36 rfl rfl HT2.out (by rw [HSS.out]; exact size_sec) (by rw [HSS.out, zArr_size]) (sec_one _) ?_))
  have hld := run_loadVar_row (P := Try.prog) (w2.setRow w.heap.size (bvs (wrS 4 ok B)).toArray) w.heap.size 36 36 (bvs (wrS 4 ok B)).toArray (0, 0) _ (setRow_heap _ _ _ _ _ _ HT2.out) Try.underlying36 (by simp) (by rw [HSS.out]; exact size_sec)
  exact bodyPost_ret (v := .tuple #[secV (wrS 4 ok B), .int .i64 (wrE 4 ok B)]) (results_cell2 Try.results91 rfl rfl hld) rfl ⟨rfl, below_row HB2.out (Nat.le_refl _)⟩
set_option maxRecDepth 10000 in
set_option maxHeartbeats 4000000 in
theorem readSlots_any (l : List UInt8) (w : World) (hl : l.length = 128) : Calls Try.prog 67 #[secV l] w (RlSlt w l) := by
  have HSZ : Hid ((bvs l).toArray.size = 128) := by unfold Hid; rw [secV_size, hl]
  have hb1 : Below w.heap.size w (w.alloc (.cells (bvs l).toArray 36 (0, 0))) := (Below.refl _ _).alloc (Nat.le_refl _) _
  have HG1 := Lib.hid (heap_alloc_last w (.cells (bvs l).toArray 36 (0, 0)))
  have HB1 := Lib.hid hb1
  have HRD := Lib.hid (rdl_slot l (w.alloc (.cells (bvs l).toArray 36 (0, 0))) hl)
  unfold RlSlt secV at HRD
  obtain ⟨N, hN⟩ : ∃ N, (if slotRdOk l then (0 : Int) else 21) = N := ⟨_, rfl⟩
  unfold RlSlt
  rw [hN] at HRD ⊢
  clear hb1 hl hN
  unfold secV
  go_enter Try.func67, Try.ntmps67
  go_upto_region 1 with fail
  revert HG1 HB1 HRD
  generalize w.alloc (.cells (bvs l).toArray 36 (0, 0)) = w1
  intro HG1 HB1 HRD
  go_wp2_with (first
    | (refine wpList_load_row rfl 36 (.tmp 1) rfl w.heap.size rfl _ _ _ _ HG1.out Try.underlying36 rfl (by rw [HSZ.out]; exact size_sec) ?_)
    | (go_at_call 122; go_must (refine HRD.out.mono ?_; rintro e w2 ⟨v', rfl, ho2, hb2⟩; have HO2 := Lib.hid ho2; have HB2 := Lib.hid (bnext HB1.out hb2); clear ho2 hb2)))
  go_ret2
  exact ⟨_, rfl, own_low HO2.out HB1.out.size, HB2.out⟩
end Go.Proofs.Ytcpfafmkhegckaa
