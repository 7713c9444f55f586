/-
  DiskTwins: two disks beside each other.
-/
import Derived.Test.YtiehfaiadhhndaaTwB
import Derived.Test.YtiehfaiadhhndaaDsPb
namespace Go.Proofs.Ytiehfaiadhhndaa
open Go.RowKit
set_option linter.unusedVariables false
set_option linter.unusedSimpArgs false
set_option linter.unnecessarySimpa false
def S4 (b o : Nat) (a : Ac) (w' : World) : Prop := w'.cell? ⟨b, o, none⟩ = some (.int .i64 a.kind) ∧ w'.cell? ⟨b, o + 1, none⟩ = some (.int .i64 a.at_) ∧ w'.cell? ⟨b, o + 2, none⟩ = some a.vS ∧ w'.cell? ⟨b, o + 3, none⟩ = some (.slice a.A a.K.length a.c)
theorem S4.keep {b o : Nat} {a : Ac} {F : Nat → Prop} {w w' : World} (h : S4 b o a w) (hk : Keep F w w') (hb : ¬ F b) : S4 b o a w' :=
  ⟨hk.cell h.1 hb, hk.cell h.2.1 hb, hk.cell h.2.2.1 hb, hk.cell h.2.2.2 hb⟩
theorem PlSt.step {w wr wc w7 : World} {p gS p6 n k : Nat} {vq vS vQ vq2 vS2 vQ2 : Value} {D D2 : Dk} (h : PlSt w p gS p6 n k vq vS vQ D wr) (hd : DoEnd (fun k => k = p6) w wc p gS vq vq2 vS2 vQ2 D2 w7) (hwc : Below wr.heap.size wr wc) (ho : DOk D2 (k + 1)) (hl : D2.S.length = n) (hp : w.heap.size ≤ p6) :
    PlSt w p gS p6 n (k + 1) vq2 vS2 vQ2 D2 (set5 w7 p6 vS2 vQ2 (.bool D2.dead) (.int .i64 D2.arm) (.int .i64 D2.deeds)) := by
  have hp6 : p6 < wr.heap.size := (Array.getElem?_eq_some_iff.1 h.box).1
  have hn := ft_new h.n6 hd.new (by have := hwc.size; omega)
  have hk5 := tape_set5 (w := w7) (g := p6) (a := vS2) (b := vQ2) (c := .bool D2.dead) (d := .int .i64 D2.arm) (e := .int .i64 D2.deeds)
  exact ⟨hd.disk.keep hk5 (fun e => hn (.inl e.symm)) (fun e => hn (.inr (.inl e.symm))) (fun k hk e => hn (.inr (.inr (by rw [hk, e])))), hd.ref.keep (Keep.mono hk5 (fun k e => .inr e)), ho, hl, set5_heap (hd.keep.heap (old_heap h.box hwc) h.n6), set5_below hd.below hp, hn⟩
/-- Two disks and their references, side by side. -/
structure TwSt (w : World) (p gS b p' gS' b' n m m' : Nat) (vq vS vQ : Value) (D : Dk) (vq' vS' vQ' : Value) (E : Dk) (wr : World) : Prop where
  disk : DkAt wr w.heap.size p gS vq D
  disk' : DkAt wr w.heap.size p' gS' vq' E
  ref : RefAt wr (fun k => Ft p gS vq k ∨ Ft p' gS' vq' k ∨ k = b ∨ k = b') vS vQ D
  ref' : RefAt wr (fun k => Ft p gS vq k ∨ Ft p' gS' vq' k ∨ k = b ∨ k = b') vS' vQ' E
  apart : ∀ k, Ft p gS vq k → ¬ Ft p' gS' vq' k
  nb : ¬ Ft p gS vq b
  nb' : ¬ Ft p gS vq b'
  mb : ¬ Ft p' gS' vq' b
  mb' : ¬ Ft p' gS' vq' b'
  bb : b ≠ b'
  ok : DOk D m
  ok' : DOk E m'
  len : D.S.length = n
  len' : E.S.length = n
  box : wr.heap[b]? = some (.cells (dskB D vS vQ) 43 (0, 0))
  box' : wr.heap[b']? = some (.cells (dskB E vS' vQ') 43 (0, 0))
  below : Below w.heap.size w wr
  hb : w.heap.size ≤ b
  hb' : w.heap.size ≤ b'
section
variable {w wr wc w7 : World} {p gS b p' gS' b' n m m' : Nat} {vq vS vQ vq' vS' vQ' vq2 vS2 vQ2 : Value} {D E D2 : Dk}
theorem TwSt.swap (h : TwSt w p gS b p' gS' b' n m m' vq vS vQ D vq' vS' vQ' E wr) : TwSt w p' gS' b' p gS b n m' m vq' vS' vQ' E vq vS vQ D wr :=
  ⟨h.disk', h.disk, h.ref'.foot (fun k _ hk => by rcases hk with e | e | e | e; exact .inr (.inl e); exact .inl e; exact .inr (.inr (.inr e)); exact .inr (.inr (.inl e))), h.ref.foot (fun k _ hk => by rcases hk with e | e | e | e; exact .inr (.inl e); exact .inl e; exact .inr (.inr (.inr e)); exact .inr (.inr (.inl e))),
    fun k h1 h2 => h.apart k h2 h1, h.mb', h.mb, h.nb', h.nb, fun e => h.bb e.symm, h.ok', h.ok, h.len', h.len, h.box', h.box, h.below, h.hb', h.hb⟩
def twX (p' gS' b b' : Nat) (vq' : Value) (k : Nat) : Prop := Ft p' gS' vq' k ∨ k = b ∨ k = b'
theorem TwSt.refX (h : TwSt w p gS b p' gS' b' n m m' vq vS vQ D vq' vS' vQ' E wr) (hwc : Below wr.heap.size wr wc) : RefAt wc (FtX (twX p' gS' b b' vq') p gS vq) vS vQ D := h.ref.below hwc
theorem TwSt.ltX (h : TwSt w p gS b p' gS' b' n m m' vq vS vQ D vq' vS' vQ' E wr) (hwc : Below wr.heap.size wr wc) : ∀ k, twX p' gS' b b' vq' k → k < wc.heap.size := fun k hk => by
  have hs := hwc.size
  have h1 := (Array.getElem?_eq_some_iff.1 h.box).1
  have h2 := (Array.getElem?_eq_some_iff.1 h.box').1
  rcases hk with e | e | e
  · have := Ft.lt h.disk' k e; omega
  · omega
  · omega
theorem TwSt.step (h : TwSt w p gS b p' gS' b' n m m' vq vS vQ D vq' vS' vQ' E wr) (hd : DoEnd (twX p' gS' b b' vq') w wc p gS vq vq2 vS2 vQ2 D2 w7) (hwc : Below wr.heap.size wr wc) (ho : DOk D2 (m + 1)) (hl : D2.S.length = n) :
    TwSt w p gS b p' gS' b' n (m + 1) m' vq2 vS2 vQ2 D2 vq' vS' vQ' E (set5 w7 b vS2 vQ2 (.bool D2.dead) (.int .i64 D2.arm) (.int .i64 D2.deeds)) := by
  have hs := hwc.size
  have h1 := (Array.getElem?_eq_some_iff.1 h.box).1
  have h2 := (Array.getElem?_eq_some_iff.1 h.box').1
  have hn := ft_new h.nb hd.new (by omega)
  have hn' := ft_new h.nb' hd.new (by omega)
  have hk5 := tape_set5 (w := w7) (g := b) (a := vS2) (b := vQ2) (c := .bool D2.dead) (d := .int .i64 D2.arm) (e := .int .i64 D2.deeds)
  have hlt' := Ft.lt h.disk'
  have hap : ∀ k, Ft p gS vq2 k → ¬ Ft p' gS' vq' k := fun k hk hk' => by
    rcases hk with e | e | e
    · exact h.apart k (.inl e) hk'
    · exact h.apart k (.inr (.inl e)) hk'
    · rcases hd.new k e with e | e
      · exact h.apart k (.inr (.inr e)) hk'
      · have := hlt' k hk'; omega
  have hd' : DkAt w7 w.heap.size p' gS' vq' E := (h.disk'.below hwc).keep hd.keep (fun e => h.apart _ e (.inl rfl)) (fun e => h.apart _ e (.inr (.inl rfl))) (fun k hk e => h.apart _ e (.inr (.inr hk)))
  have hr' : RefAt w7 (fun k => Ft p gS vq2 k ∨ Ft p' gS' vq' k ∨ k = b ∨ k = b') vS' vQ' E := by
    have e1 : RefAt wr (fun k => (Ft p gS vq k ∨ Ft p' gS' vq' k ∨ k = b ∨ k = b') ∨ Ft p gS vq2 k) vS' vQ' E := h.ref'.foot (fun k hk hf => by
      rcases hf with hf | hf
      · exact hf
      · rcases hf with e | e | e
        · exact .inl (.inl e)
        · exact .inl (.inr (.inl e))
        · rcases hd.new k e with e | e
          · exact .inl (.inr (.inr e))
          · omega)
    exact ((e1.below hwc).keep (Keep.mono hd.keep (fun k e => .inl (.inl e)))).foot (fun k _ hk => by
      rcases hk with e | e
      · exact .inr e
      · exact .inl (.inr e))
  refine ⟨hd.disk.keep hk5 (fun e => hn (.inl e.symm)) (fun e => hn (.inr (.inl e.symm))) (fun k hk e => hn (.inr (.inr (by rw [hk, e])))),
    hd'.keep hk5 (fun e => h.mb (.inl e.symm)) (fun e => h.mb (.inr (.inl e.symm))) (fun k hk e => h.mb (.inr (.inr (by rw [hk, e])))),
    hd.ref.keep (Keep.mono hk5 (fun k e => .inr (.inr (.inl e)))), hr'.keep (Keep.mono hk5 (fun k e => .inr (.inr (.inl e)))), hap, hn, hn', h.mb, h.mb', h.bb, ho, h.ok', hl, h.len', set5_heap (hd.keep.heap (old_heap h.box hwc) h.nb), ?_, set5_below hd.below h.hb, h.hb, h.hb'⟩
  exact (set5_far (fun e => h.bb e.symm)).trans (hd.keep.heap (old_heap h.box' hwc) h.nb')
end
theorem TwSt.init {w wr W : World} {p gS b p' gS' b' n k c base : Nat} {vq vS vQ vq' a1 a2 a3 a4 a5 : Value} {D : Dk} (h : PlSt w p gS b n k vq vS vQ D wr) (hb : Below wr.heap.size wr W) (hd' : DkAt W base p' gS' vq' { D with cap := c }) (hbase : wr.heap.size ≤ base) (hb1 : wr.heap.size ≤ b') (hn : ¬ Ft p' gS' vq' b') (hx : W.heap[b']? = some (.cells #[a1, a2, a3, a4, a5] 43 (0, 0))) (hwb : w.heap.size ≤ b) :
    TwSt w p gS b p' gS' b' n k k vq vS vQ D vq' vS vQ { D with cap := c } (set5 W b' vS vQ (.bool D.dead) (.int .i64 D.arm) (.int .i64 D.deeds)) := by
  have hbl : b < wr.heap.size := (Array.getElem?_eq_some_iff.1 h.box).1
  have hlt := Ft.lt h.disk
  have hge := Ft.ge hd'
  have hws := h.below.size
  have hk5 := tape_set5 (w := W) (g := b') (a := vS) (b := vQ) (c := .bool D.dead) (d := .int .i64 D.arm) (e := .int .i64 D.deeds)
  have hnb' : ¬ Ft p gS vq b' := fun e => by have := hlt _ e; omega
  have hr : RefAt (set5 W b' vS vQ (.bool D.dead) (.int .i64 D.arm) (.int .i64 D.deeds)) (fun k => Ft p gS vq k ∨ Ft p' gS' vq' k ∨ k = b ∨ k = b') vS vQ D :=
    ((h.ref.foot (fun k hk hf => by
      rcases hf with e | e | e | e
      · exact .inl e
      · have := hge k e; omega
      · exact .inr e
      · omega)).below hb).keep (Keep.mono hk5 (fun k e => .inr (.inr (.inr e))))
  refine ⟨(h.disk.below hb).keep hk5 (fun e => hnb' (.inl e.symm)) (fun e => hnb' (.inr (.inl e.symm))) (fun k hk e => hnb' (.inr (.inr (by rw [hk, e])))),
    (hd'.keep hk5 (fun e => hn (.inl e.symm)) (fun e => hn (.inr (.inl e.symm))) (fun k hk e => hn (.inr (.inr (by rw [hk, e]))))).low (by omega), hr, ⟨hr.secs, hr.que⟩, fun k h1 h2 => by have := hlt k h1; have := hge k h2; omega,
    h.n6, hnb', fun e => by have := hge _ e; omega, hn, by omega, h.ok, ⟨h.ok.arm, h.ok.deeds, h.ok.len, h.ok.at_⟩, h.len, h.len, ?_, set5_heap hx, set5_below (h.below.trans (hb.mono hws)) (by omega), hwb, by omega⟩
  exact (set5_far (by omega)).trans (old_heap h.box hb)
theorem TwSt.drewN {w wr : World} {p gS b p' gS' b' n m m' : Nat} {vq vS vQ vq' vS' vQ' : Value} {D E : Dk} (h : TwSt w p gS b p' gS' b' n m m' vq vS vQ D vq' vS' vQ' E wr) (k : Nat) : TwSt w p gS b p' gS' b' n m m' vq vS vQ D vq' vS' vQ' E (wr.drewN k) :=
  ⟨h.disk.drewN k, h.disk'.drewN k, h.ref.keep ((Keep.refl _ _).drewN k), h.ref'.keep ((Keep.refl _ _).drewN k), h.apart, h.nb, h.nb', h.mb, h.mb', h.bb, h.ok, h.ok', h.len, h.len', h.box, h.box', bdrewN h.below k, h.hb, h.hb'⟩
theorem TwSt.bel {w wr wE : World} {p gS b p' gS' b' n m m' : Nat} {vq vS vQ vq' vS' vQ' : Value} {D E : Dk} (h : TwSt w p gS b p' gS' b' n m m' vq vS vQ D vq' vS' vQ' E wr) (hb : Below wr.heap.size wr wE) : TwSt w p gS b p' gS' b' n m m' vq vS vQ D vq' vS' vQ' E wE :=
  ⟨h.disk.below hb, h.disk'.below hb, h.ref.below hb, h.ref'.below hb, h.apart, h.nb, h.nb', h.mb, h.mb', h.bb, h.ok, h.ok', h.len, h.len', old_heap h.box hb, old_heap h.box' hb, h.below.trans (hb.mono h.below.size), h.hb, h.hb'⟩
theorem sameD_self (D : Dk) (c : Nat) : sameD D { D with cap := c } = true := by simp [sameD]
theorem sameD_self' (D : Dk) (c : Nat) : sameD { D with cap := c } D = true := by simp [sameD]
theorem equal_ar9 (w : World) (s t : Sc) : (Op.equalIn 9999 30 (.agg (scF s).toArray) (.agg (scF t).toArray)).run Try.prog w = .ok (decide (s.1 = t.1)) w := by
  have h : ∃ i, Try.prog.info? 5 = some i := by
    cases hi : Try.prog.info? 5 with
    | none => have := infoU8_3; rw [hi] at this; cases this
    | some i => exact ⟨i, rfl⟩
  obtain ⟨i, hi⟩ := h
  show (Op.equalIn (9998 + 1) _ _ _).run _ _ = _
  rw [run_equalIn_array w 9998 _ _ Try.underlying30 hi, show Try.prog.cellsOf 5 = 1 by kernel_rfl]
  unfold scF
  rw [eqItems_bytes 9997 (by kernel_rfl) Try.underlying5 w s.1 t.1 _ (fun i hi => by have := s.2; have := t.2; simp at hi; omega), all_eq_iff s.1 t.1 128 s.2 t.2]
theorem equal_rwr (w : World) (s t : Wr) : (Op.equalIn 10000 63 (.agg (wrF s).toArray) (.agg (wrF t).toArray)).run Try.prog w = .ok (decide (s.at_ = t.at_ ∧ s.s.1 = t.s.1)) w := by
  have hu := Try.underlying63
  have hf : Try.prog.underlying 63 = some (.struct (Try.prog.fieldsOf 63)) := by unfold Program.fieldsOf; rw [hu]
  rw [run_equalIn_struct w 9999 _ _ _ hf (by kernel_rfl)]
  unfold Program.fieldsOf
  rw [hu]
  simp only [Op.eqFields]
  go_simp
  have h1 : ∀ q : Wr, (wrF q)[0]? = some (.int .i64 q.at_) := fun _ => rfl
  have h2 : ∀ q : Wr, List.take 128 (wrF q).tail = scF q.s := fun q => by unfold wrF; rw [List.tail_cons, List.take_of_length_le (by rw [scF_len]; exact Nat.le_refl _)]
  rw [h1, h1, h2, h2]
  simp only [equal_ar9]
  go_simp
  by_cases ha : s.at_ = t.at_ <;> by_cases hs : s.s.1 = t.s.1 <;> simp [ha, hs]
theorem equal_rwrD (w : World) (s t : Wr) : (Op.equalIn 10000 63 (.agg (wrF s).toArray) (.agg (wrF t).toArray)).run Try.prog w = .ok (decide (s = t)) w := by
  rw [equal_rwr]; congr 1
  exact decide_eq_decide.2 ⟨fun h => by obtain ⟨a, b⟩ := s; obtain ⟨c, d⟩ := t; obtain ⟨h1, h2⟩ := h; dsimp only at h1 h2; rw [h1, Subtype.ext h2], fun h => by rw [h]; exact ⟨rfl, rfl⟩⟩
theorem equal_ar (w : World) (s t : Sc) : (Op.equalIn 10000 30 (.agg (scF s).toArray) (.agg (scF t).toArray)).run Try.prog w = .ok (decide (s.1 = t.1)) w := by
  have h : ∃ i, Try.prog.info? 5 = some i := by
    cases hi : Try.prog.info? 5 with
    | none => have := infoU8_3; rw [hi] at this; cases this
    | some i => exact ⟨i, rfl⟩
  obtain ⟨i, hi⟩ := h
  exact equal_sec Try.underlying30 hi (by kernel_rfl) (by kernel_rfl) Try.underlying5 w s.1 t.1 s.2 t.2
theorem equal_arD (w : World) (s t : Sc) : (Op.equalIn 10000 30 (.agg (scF s).toArray) (.agg (scF t).toArray)).run Try.prog w = .ok (decide (s = t)) w := by
  rw [equal_ar]; congr 1; exact decide_eq_decide.2 ⟨fun h => Subtype.ext h, fun h => by rw [h]⟩
theorem size_rwr : (Try.prog.info? 63).map (·.size) = some 129 := by kernel_rfl
theorem rows_atR {α : Type} {w : World} {F : Nat → Prop} {A : Option Addr} {c : Nat} {f : α → List Value} {k : Nat} {L : List α} (hk : ∀ x, (f x).length = k) (h : RowsAt w F f k (.slice A L.length c) L) {i : Nat} {x : α} (hi : L[i]? = some x) : ∃ b o, A = some ⟨b, o, none⟩ ∧ w.rangeAt b (o + i * k) (f x) := by
  obtain ⟨A', c', e1, _, _, _, hrd, _⟩ := h
  simp only [Value.slice.injEq, true_and] at e1
  obtain ⟨rfl, rfl⟩ := e1
  exact rows_at hk hrd hi
def TwS (b8 b11 : Nat) (u v : Value) (xb xo : Nat) (cs : List Value) (yb yo : Nat) (ds : List Value) (k : Nat) (w' : World) : Prop := w'.cell? ⟨b8, k, none⟩ = some u ∧ w'.cell? ⟨b11, k, none⟩ = some v ∧ w'.rangeAt xb xo cs ∧ w'.rangeAt yb yo ds
theorem alike_no {Q M : List Wr} {ab lb : Bool} {j : Nat} (h : false = (ab && lb && decide (Q.take j = M.take j))) (hl : decide (Q.length = M.length) = lb) : (ab && decide (Q = M)) = false := by
  by_cases e : Q = M
  · subst e
    simp at hl
    subst hl
    simpa using h.symm
  · simp [e]
theorem alike_end {Q M : List Wr} {ab lb : Bool} (h : true = (ab && lb && decide (Q.take Q.length = M.take Q.length))) (hl : decide (Q.length = M.length) = lb) : (ab && decide (Q = M)) = true := by
  cases lb with
  | false => simp at h
  | true =>
    have hl := of_decide_eq_true hl
    rw [List.take_length, hl, List.take_length] at h
    simp at h
    simp [h.1, h.2]
theorem alike_step {Q M : List Wr} {ab lb : Bool} {j : Nat} {x y : Wr} (h : true = (ab && lb && decide (Q.take j = M.take j))) (hx : Q[j]? = some x) (hy : M[j]? = some y) : decide (x = y) = (ab && lb && decide (Q.take (j + 1) = M.take (j + 1))) := by
  cases ab <;> cases lb <;> simp at h
  have := take_step h hx hy
  simp [this]
theorem alike_stepS {Q M : List Sc} {al : Bool} {j : Nat} {x y : Sc} (h : true = (al && decide (Q.take j = M.take j))) (hx : Q[j]? = some x) (hy : M[j]? = some y) : decide (x = y) = (al && decide (Q.take (j + 1) = M.take (j + 1))) := by
  cases al <;> simp at h
  have := take_step h hx hy
  simp [this]
theorem alike_noS {Q M : List Sc} {al : Bool} {j : Nat} (h : false = (al && decide (Q.take j = M.take j))) : false = (al && decide (Q.take (j + 1) = M.take (j + 1))) := by
  cases al with
  | false => rfl
  | true =>
    have h1 : ¬ Q.take j = M.take j := by simpa using h.symm
    have h2 : ¬ Q.take (j + 1) = M.take (j + 1) := fun e => h1 (by
      have := congrArg (List.take j) e
      rwa [List.take_take, List.take_take, Nat.min_eq_left (by omega)] at this)
    simp [h2]
end Go.Proofs.Ytiehfaiadhhndaa
