/-
  Disk: the law's Do: acts, and the first walk.
-/
import Derived.Test.YtiehfaiadhhndaaDskW
namespace Go.Proofs.Ytiehfaiadhhndaa
open Go.RowKit
set_option linter.unusedVariables false
set_option linter.unusedSimpArgs false
set_option linter.unnecessarySimpa false
structure Ac where
  kind : Int
  at_ : Int
  vS : Value
  S : List UInt8
  A : Option Addr
  c : Nat
  K : List Bool
def acV (a : Ac) : List Value := [.int .i64 a.kind, .int .i64 a.at_, a.vS, .slice a.A a.K.length a.c]
structure AcOk (w : World) (a : Ac) : Prop where
  s : Byt w a.vS a.S
  sl : a.S.length ≤ 9223372036854775807
  k : ReadAt w a.A boF 1 a.K
  kl : a.K.length ≤ maxLen
  at_ : -9223372036854775808 ≤ a.at_ ∧ a.at_ ≤ 9223372036854775807
theorem AcOk.below {w w' : World} {a : Ac} (h : AcOk w a) (hb : Below w.heap.size w w') : AcOk w' a := ⟨h.s.below hb, h.sl, h.k.below boF_len hb, h.kl, h.at_⟩
def scFull (l : List UInt8) : Sc := ⟨full l, full_length l⟩
def actD (D : Dk) (a : Ac) : Dk := if a.kind = 0 then (writeD D a.at_ (scFull a.S)).1 else if a.kind = 2 then (flushD D).1 else if a.kind = 3 then armD D a.at_ else if a.kind = 4 then crashD D a.K else D
theorem Ft.lt {w : World} {base p gS : Nat} {vq : Value} {D : Dk} (h : DkAt w base p gS vq D) : ∀ k, Ft p gS vq k → k < w.heap.size := fun k hk => by
  obtain ⟨h1, h2, h3⟩ := h.lt
  rcases hk with rfl | rfl | hk
  · exact h1
  · exact h2
  · exact h3 k hk
def FtX (X : Nat → Prop) (p gS : Nat) (vq : Value) (k : Nat) : Prop := Ft p gS vq k ∨ X k
structure DoEnd (X : Nat → Prop) (w0 w : World) (p gS : Nat) (vq vq' vS vQ : Value) (D : Dk) (w' : World) : Prop where
  disk : DkAt w' w0.heap.size p gS vq' D
  ref : RefAt w' (FtX X p gS vq') vS vQ D
  below : Below w0.heap.size w0 w'
  keep : Keep (Ft p gS vq) w w'
  new : ∀ k, vq'.ownBlock = some k → vq.ownBlock = some k ∨ w.heap.size ≤ k
def DoTo (X : Nat → Prop) (w0 w : World) (p gS : Nat) (vq : Value) (D : Dk) (e : Ending) (w' : World) : Prop := ∃ vq' vS vQ, e = .returned (.tuple #[rdV D vS vQ, .bool true]) ∧ DoEnd X w0 w p gS vq vq' vS vQ D w'
theorem acts_boxes (w : World) (a b c d e a1 a2 a3 a4 : Value) : ∃ w1, ((w.alloc (.cells #[a, b, c, d, e] 43)).alloc (.cells #[a1, a2, a3, a4] 51)).alloc (.cells #[.slice none 0 0, .slice none 0 0, .bool false, .int .i64 0, .int .i64 0] 43) = w1 ∧ Below w.heap.size w w1 ∧
    w1.heap[w.heap.size]? = some (.cells #[a, b, c, d, e] 43 (0, 0)) ∧ w1.heap[w.heap.size + 1]? = some (.cells #[a1, a2, a3, a4] 51 (0, 0)) ∧ w1.heap[w.heap.size + 1 + 1]? = some (.cells #[.slice none 0 0, .slice none 0 0, .bool false, .int .i64 0, .int .i64 0] 43 (0, 0)) ∧ w1.heap.size = w.heap.size + 3 := by
  refine ⟨_, rfl, (((Below.refl w.heap.size w).alloc (Nat.le_refl _) _).alloc (by simp) _).alloc (by simp; omega) _, old_heap (old_heap (new_heap w _) ((Below.refl _ _).alloc (Nat.le_refl _) _)) ((Below.refl _ _).alloc (Nat.le_refl _) _), ?_, ?_, by simp⟩
  · have := new_heap (w.alloc (.cells #[a, b, c, d, e] 43)) (.cells #[a1, a2, a3, a4] 51 (0, 0))
    rw [World.size_alloc] at this
    exact old_heap this ((Below.refl _ _).alloc (Nat.le_refl _) _)
  · have := new_heap ((w.alloc (.cells #[a, b, c, d, e] 43)).alloc (.cells #[a1, a2, a3, a4] 51)) (.cells #[.slice none 0 0, .slice none 0 0, .bool false, .int .i64 0, .int .i64 0] 43 (0, 0))
    rw [World.size_alloc, World.size_alloc] at this
    exact this
theorem tape_set5 {w : World} {g : Nat} {a b c d e : Value} : Keep (· = g) w (set5 w g a b c d e) :=
  (((((Keep.refl (fun k => k = g) w).setCell g 0 a rfl).setCell g 1 b rfl).setCell g 2 c rfl).setCell g 3 d rfl).setCell g 4 e rfl
/-- The disk's blocks, and those of the boxes between two worlds. -/
def Fx (X : Nat → Prop) (p gS : Nat) (vq : Value) (w w1 : World) (k : Nat) : Prop := FtX X p gS vq k ∨ (w.heap.size ≤ k ∧ k < w1.heap.size)
theorem RefAt.fx {X : Nat → Prop} {w w1 w2 : World} {p gS : Nat} {vq vS vQ : Value} {D : Dk} (h : RefAt w (FtX X p gS vq) vS vQ D) (hb : Below w.heap.size w w2) : RefAt w2 (Fx X p gS vq w w1) vS vQ D :=
  (h.foot (fun b hb hf => by rcases hf with hf | hf; exact hf; omega)).below hb
theorem RefAt.un {X : Nat → Prop} {w w1 w2 : World} {p gS : Nat} {vq vS vQ : Value} {D : Dk} (h : RefAt w2 (Fx X p gS vq w w1) vS vQ D) : RefAt w2 (FtX X p gS vq) vS vQ D := h.foot (fun b _ hf => .inl hf)
theorem Fx.lt {X : Nat → Prop} {w w1 w2 : World} {base p gS : Nat} {vq : Value} {D : Dk} (hd : DkAt w2 base p gS vq D) (hX : ∀ k, X k → k < w.heap.size) (h1 : w.heap.size ≤ w1.heap.size) (h2 : w1.heap.size ≤ w2.heap.size) : ∀ k, Fx X p gS vq w w1 k → k < w2.heap.size := fun k hk => by
  rcases hk with (hk | hk) | hk
  · exact Ft.lt hd k hk
  · have := hX k hk; omega
  · omega
theorem Ft.ge {w : World} {base p gS : Nat} {vq : Value} {D : Dk} (h : DkAt w base p gS vq D) : ∀ k, Ft p gS vq k → base ≤ k := fun k hk => by
  rcases hk with rfl | rfl | hk
  · exact h.bp
  · exact h.bS
  · exact (h.que.lt k hk).1
theorem RefAt.fx2 {X : Nat → Prop} {w w1 w2 : World} {p gS : Nat} {vq vq' vS vQ : Value} {D : Dk} (h : RefAt w (FtX X p gS vq) vS vQ D) (hk : Keep (Ft p gS vq) w1 w2) (hn : ∀ k, vq'.ownBlock = some k → vq.ownBlock = some k ∨ w1.heap.size ≤ k) (hb : Below w.heap.size w w1) : RefAt w2 (Fx X p gS vq' w w1) vS vQ D := by
  have h1 : RefAt w (fun k => Fx X p gS vq w w1 k ∨ Fx X p gS vq' w w1 k) vS vQ D := h.foot (fun b hb' hf => by
    have hsz := hb.size
    rcases hf with (hf | hf) | ((hf | hf) | hf)
    · exact hf
    · omega
    · rcases hf with e | e | e
      · exact .inl (.inl e)
      · exact .inl (.inr (.inl e))
      · rcases hn b e with e | e
        · exact .inl (.inr (.inr e))
        · omega
    · exact .inr hf
    · omega)
  exact ((h1.below hb).keep (Keep.mono hk (fun k hk => .inl (.inl (.inl hk))))).foot (fun b _ hf => .inr hf)
theorem do_end {X : Nat → Prop} {w0 w w1 w2 w3 : World} {p gS g : Nat} {vq vq2 vS vQ a b c d e : Value} {D' : Dk} (hd : DkAt w2 w0.heap.size p gS vq2 D') (hr : RefAt w3 (Fx X p gS vq2 w w1) vS vQ D') (hb : Below w2.heap.size w2 w3) (hB : Below w0.heap.size w0 w2)
    (hg1 : w.heap.size ≤ g) (hg2 : g < w1.heap.size) (h12 : w1.heap.size ≤ w2.heap.size) (hw : w0.heap.size ≤ w.heap.size) (hn : ¬ Ft p gS vq2 g) (hkp : Keep (Ft p gS vq) w w2) (hnn : ∀ k, vq2.ownBlock = some k → vq.ownBlock = some k ∨ w.heap.size ≤ k) :
    DoEnd X w0 w p gS vq vq2 vS vQ D' (set5 w3 g a b c d e) := by
  have hk5 := tape_set5 (w := w3) (g := g) (a := a) (b := b) (c := c) (d := d) (e := e)
  refine ⟨(hd.below hb).keep hk5 (fun e => hn (.inl e.symm)) (fun e => hn (.inr (.inl e.symm))) (fun k hk e => hn (.inr (.inr (by rw [hk, e])))), ?_, ?_, ?_, hnn⟩
  · exact RefAt.un (w := w) (w1 := w1) (hr.keep (Keep.mono hk5 (fun k e => .inr (by subst e; omega))))
  · exact (hB.trans (hb.mono hB.size)).trans (hk5.below (fun k e => by subst e; omega) (by have := hb.size; have := hB.size; omega))
  · exact (hkp.trans (Keep.of_below hb)).trans' hk5 (fun i hi e => by omega)
theorem do_alloc {X : Nat → Prop} {w0 w W : World} {p gS : Nat} {vq vq' vS vQ : Value} {D' : Dk} (o : Obj) (h : DoEnd X w0 w p gS vq vq' vS vQ D' W) : DoEnd X w0 w p gS vq vq' vS vQ D' (W.alloc o) := by
  have hb : Below W.heap.size W (W.alloc o) := (Below.refl _ W).alloc (Nat.le_refl _) o
  exact ⟨h.disk.below hb, h.ref.below hb, h.below.trans (hb.mono h.below.size), h.keep.trans (Keep.of_below hb), h.new⟩
theorem ft_new {p gS g : Nat} {vq vq2 : Value} {w1 : World} (h : ¬ Ft p gS vq g) (hn : ∀ k, vq2.ownBlock = some k → vq.ownBlock = some k ∨ w1.heap.size ≤ k) (hg : g < w1.heap.size) : ¬ Ft p gS vq2 g := fun hf => by
  rcases hf with e | e | e
  · exact h (.inl e)
  · exact h (.inr (.inl e))
  · rcases hn g e with e | e
    · exact h (.inr (.inr e))
    · omega
set_option maxRecDepth 100000 in
set_option maxHeartbeats 8000000 in
theorem ldo_arm {X : Nat → Prop} {w0 w : World} {p gS m : Nat} {vq vS vQ : Value} {D : Dk} (h : DkAt w w0.heap.size p gS vq D) (hr : RefAt w (FtX X p gS vq) vS vQ D) (hX : ∀ k, X k → k < w.heap.size) (a : Ac) (ha : AcOk w0 a) (hb : Below w0.heap.size w0 w) (hk : a.kind = 3) :
    Calls Try.prog 19 #[.pointer (some ⟨p, 0, none⟩), rdV D vS vQ, .agg (acV a).toArray] w (DoTo X w0 w p gS vq (armD D a.at_)) := by
  have HR := Lib.hid hr
  obtain ⟨A, c, rfl, _⟩ := hr.secs
  obtain ⟨A2, c2, rfl, _⟩ := hr.que
  have HB := Lib.hid hb
  have HFl := Lib.hid (Ft.lt h)
  unfold rdV acV
  rw [hk]
  obtain ⟨w1, hw1, hb1, hx4, hx5, hx6, hsz1⟩ := acts_boxes w (.slice A D.S.length c) (.slice A2 D.Q.length c2) (.bool D.dead) (.int .i64 D.arm) (.int .i64 D.deeds) (.int .i64 3) (.int .i64 a.at_) a.vS (.slice a.A a.K.length a.c)
  have HX4 := Lib.hid hx4
  have HX5 := Lib.hid hx5
  have HX6 := Lib.hid hx6
  have HB1 := Lib.hid hb1
  have HW1 := Lib.hid hw1
  have HAR := Lib.hid (darm_any a.at_ (h.below hb1))
  unfold HeadTo at HAR
  have hp4 : ¬ w.heap.size = p := fun e => by have := (h.lt).1; omega
  have hp5 : ¬ w.heap.size + 1 = p := fun e => by have := (h.lt).1; omega
  have hp6 : ¬ w.heap.size + 1 + 1 = p := fun e => by have := (h.lt).1; omega
  have j0 : w1.cell? ⟨w.heap.size + 1, 0, none⟩ = some (.int .i64 3) := cell_row hx5 0; have j1 : w1.cell? ⟨w.heap.size + 1, 1, none⟩ = some (.int .i64 a.at_) := cell_row hx5 1; have j2 : w1.cell? ⟨w.heap.size + 1, 2, none⟩ = some (a.vS) := cell_row hx5 2; have j3 : w1.cell? ⟨w.heap.size + 1, 3, none⟩ = some (.slice a.A a.K.length a.c) := cell_row hx5 3
  clear h hr hb hw1 hb1 hx4 hx5 hx6
  go_enter Try.func19, Try.ntmps19
  go_upto_region 1 with fail
  rw [HW1.out]
  go_upto_region 16 with (first
    | (go_at_call 16; go_must (refine HAR.out.mono ?_; rintro e w2 ⟨rfl, hd2, hk2⟩; have HD2 := Lib.hid hd2; have HK2 := Lib.hid hk2; clear hd2 hk2)))
  have hx4 := HK2.out.heap HX4.out hp4
  have hx5 := HK2.out.heap HX5.out hp5
  have HX6' := Lib.hid (HK2.out.heap HX6.out hp6)
  have HRA := Lib.hid (rarm3_any (w := w2) (F := Fx X p gS vq w w1) a.at_ ((HR.out.fx HB1.out).keep (Keep.mono HK2.out (fun k e => .inl (.inl (.inl e))))))
  unfold rdV at HRA
  have hszw2 : w1.heap.size ≤ w2.heap.size := HK2.out.size
  clear j0 j1 j2 j3 HAR HX4 HX5 HX6
  have k0 : w2.cell? ⟨w.heap.size, 0, none⟩ = some (.slice A D.S.length c) := cell_row hx4 0; have k1 : w2.cell? ⟨w.heap.size, 1, none⟩ = some (.slice A2 D.Q.length c2) := cell_row hx4 1; have k2 : w2.cell? ⟨w.heap.size, 2, none⟩ = some (.bool D.dead) := cell_row hx4 2; have k3 : w2.cell? ⟨w.heap.size, 3, none⟩ = some (.int .i64 D.arm) := cell_row hx4 3; have k4 : w2.cell? ⟨w.heap.size, 4, none⟩ = some (.int .i64 D.deeds) := cell_row hx4 4
  have j0 : w2.cell? ⟨w.heap.size + 1, 0, none⟩ = some (.int .i64 3) := cell_row hx5 0; have j1 : w2.cell? ⟨w.heap.size + 1, 1, none⟩ = some (.int .i64 a.at_) := cell_row hx5 1; have j2 : w2.cell? ⟨w.heap.size + 1, 2, none⟩ = some (a.vS) := cell_row hx5 2; have j3 : w2.cell? ⟨w.heap.size + 1, 3, none⟩ = some (.slice a.A a.K.length a.c) := cell_row hx5 3
  clear hx4 hx5 HW1
  go_wp2_with (first
    | (go_at_call 33; go_must (refine HRA.out.mono ?_; rintro e w3 ⟨rfl, hb3⟩; have hx6 := old_heap HX6'.out hb3; have n0 : w3.cell? ⟨w.heap.size + 1 + 1, 0, none⟩ = some (.slice none 0 0) := cell_row hx6 0; have n1 : w3.cell? ⟨w.heap.size + 1 + 1, 1, none⟩ = some (.slice none 0 0) := cell_row hx6 1; have n2 : w3.cell? ⟨w.heap.size + 1 + 1, 2, none⟩ = some (.bool false) := cell_row hx6 2; have n3 : w3.cell? ⟨w.heap.size + 1 + 1, 3, none⟩ = some (.int .i64 0) := cell_row hx6 3; have n4 : w3.cell? ⟨w.heap.size + 1 + 1, 4, none⟩ = some (.int .i64 0) := cell_row hx6 4; have m0 := free_row hx6 0; have m1 := free_row hx6 1; have m2 := free_row hx6 2; have m3 := free_row hx6 3; have m4 := free_row hx6 4; have HX63 := Lib.hid hx6; have HB3 := Lib.hid hb3; clear hx6 hb3)))
  rw [← set5]
  have h5 := set5_heap (a' := .slice A D.S.length c) (b' := .slice A2 D.Q.length c2) (c' := .bool (armD D a.at_).dead) (d' := .int .i64 (armD D a.at_).arm) (e' := .int .i64 (armD D a.at_).deeds) HX63.out
  have hge := Ft.ge HD2.out
  have hSS : (armD D a.at_).S = D.S := by unfold armD; split <;> rfl
  have hQQ : (armD D a.at_).Q = D.Q := by unfold armD; split <;> rfl
  have hr3 := (((HR.out.fx HB1.out).keep (Keep.mono HK2.out (fun k e => .inl (.inl (.inl e)))) : RefAt w2 (Fx X p gS vq w w1) _ _ D).below HB3.out)
  have hw0 := HB.out.size
  exact bodyPost_ret (results_cell2 Try.results19 rfl rfl (load_rdisk h5)) rfl ⟨vq, _, _, rfl, do_end (w1 := w1) HD2.out ⟨by rw [hSS]; exact hr3.secs, by rw [hQQ]; exact hr3.que⟩ HB3.out ((HB.out.trans (HB1.out.mono hw0)).trans (HK2.out.below (fun k e => hge k (.inl e)) (by omega))) (by omega) (by omega) hszw2 hw0 (fun e => by have := HFl.out _ e; omega) ((Keep.of_below HB1.out).trans (Keep.mono HK2.out (fun k e => .inl e))) (fun k hk => .inl hk)⟩
set_option maxRecDepth 100000 in
set_option maxHeartbeats 8000000 in
theorem ldo_crash {X : Nat → Prop} {w0 w : World} {p gS m : Nat} {vq vS vQ : Value} {D : Dk} (h : DkAt w w0.heap.size p gS vq D) (hr : RefAt w (FtX X p gS vq) vS vQ D) (hX : ∀ k, X k → k < w.heap.size) (hm : m ≤ 900) (ho : DOk D m) (hS1 : 1 ≤ D.S.length) (hS : D.S.length ≤ 65536) (a : Ac) (ha : AcOk w0 a) (hb : Below w0.heap.size w0 w) (hk : a.kind = 4) :
    Calls Try.prog 19 #[.pointer (some ⟨p, 0, none⟩), rdV D vS vQ, .agg (acV a).toArray] w (DoTo X w0 w p gS vq (crashD D a.K)) := by
  have HR := Lib.hid hr
  obtain ⟨A, c, rfl, _⟩ := hr.secs
  obtain ⟨A2, c2, rfl, _⟩ := hr.que
  have HB := Lib.hid hb
  have HFl := Lib.hid (Ft.lt h)
  unfold rdV acV
  rw [hk]
  obtain ⟨w1, hw1, hb1, hx4, hx5, hx6, hsz1⟩ := acts_boxes w (.slice A D.S.length c) (.slice A2 D.Q.length c2) (.bool D.dead) (.int .i64 D.arm) (.int .i64 D.deeds) (.int .i64 4) (.int .i64 a.at_) a.vS (.slice a.A a.K.length a.c)
  have HX4 := Lib.hid hx4
  have HX5 := Lib.hid hx5
  have HX6 := Lib.hid hx6
  have HB1 := Lib.hid hb1
  have HW1 := Lib.hid hw1
  have hac := ha.below (hb.trans (hb1.mono hb.size))
  have HAC := Lib.hid ha
  have HAR := Lib.hid (dcrash_any (h.below hb1) (m := m) (by omega) ho a.A a.c a.K hac.k)
  have hgeF := Ft.ge h
  have HGF := Lib.hid hgeF
  have hn4 : ¬ Ft p gS vq w.heap.size := fun e => by have := HFl.out _ e; omega
  have hn5 : ¬ Ft p gS vq (w.heap.size + 1) := fun e => by have := HFl.out _ e; omega
  have hn6 : ¬ Ft p gS vq (w.heap.size + 1 + 1) := fun e => by have := HFl.out _ e; omega
  have j0 : w1.cell? ⟨w.heap.size + 1, 0, none⟩ = some (.int .i64 4) := cell_row hx5 0; have j1 : w1.cell? ⟨w.heap.size + 1, 1, none⟩ = some (.int .i64 a.at_) := cell_row hx5 1; have j2 : w1.cell? ⟨w.heap.size + 1, 2, none⟩ = some (a.vS) := cell_row hx5 2; have j3 : w1.cell? ⟨w.heap.size + 1, 3, none⟩ = some (.slice a.A a.K.length a.c) := cell_row hx5 3
  clear h hr hb hw1 hb1 hx4 hx5 hx6 hac ha hgeF
  go_enter Try.func19, Try.ntmps19
  go_upto_region 1 with fail
  rw [HW1.out]
  go_upto_region 19 with (first
    | (go_at_call 22; go_must (refine HAR.out.mono ?_; rintro e w2 ⟨rfl, vq2, hd2, hk2, hn2⟩; have HD2 := Lib.hid hd2; have HK2 := Lib.hid hk2; have HN2 := Lib.hid hn2; clear hd2 hk2 hn2)))
  have hx4 := HK2.out.heap HX4.out hn4
  have hx5 := HK2.out.heap HX5.out hn5
  have HX6' := Lib.hid (HK2.out.heap HX6.out hn6)
  have hszw2 : w1.heap.size ≤ w2.heap.size := HK2.out.size
  have hr2 : RefAt w2 (Fx X p gS vq2 w w1) (.slice A D.S.length c) (.slice A2 D.Q.length c2) D := ((HR.out.fx2 HK2.out HN2.out HB1.out))
  have hF2 : ∀ k, Fx X p gS vq2 w w1 k → k < w2.heap.size := Fx.lt HD2.out hX (by omega) hszw2
  have hB2 : Below w0.heap.size w0 w2 := (HB.out.trans (HB1.out.mono HB.out.size)).trans (HK2.out.below (fun k e => HGF.out k e) (by have := HB.out.size; omega))
  have HRA := Lib.hid (rcrash3_any (w := w2) (m := m) hr2 hF2 (by omega) ho hS1 hS a.A a.c a.K (HAC.out.below hB2).k HAC.out.kl)
  unfold RRefTo rdV at HRA
  have HBB := Lib.hid hB2
  clear j0 j1 j2 j3 HAR HX4 HX5 HX6 hr2 hF2 hB2
  have k0 : w2.cell? ⟨w.heap.size, 0, none⟩ = some (.slice A D.S.length c) := cell_row hx4 0; have k1 : w2.cell? ⟨w.heap.size, 1, none⟩ = some (.slice A2 D.Q.length c2) := cell_row hx4 1; have k2 : w2.cell? ⟨w.heap.size, 2, none⟩ = some (.bool D.dead) := cell_row hx4 2; have k3 : w2.cell? ⟨w.heap.size, 3, none⟩ = some (.int .i64 D.arm) := cell_row hx4 3; have k4 : w2.cell? ⟨w.heap.size, 4, none⟩ = some (.int .i64 D.deeds) := cell_row hx4 4
  have j0 : w2.cell? ⟨w.heap.size + 1, 0, none⟩ = some (.int .i64 4) := cell_row hx5 0; have j1 : w2.cell? ⟨w.heap.size + 1, 1, none⟩ = some (.int .i64 a.at_) := cell_row hx5 1; have j2 : w2.cell? ⟨w.heap.size + 1, 2, none⟩ = some (a.vS) := cell_row hx5 2; have j3 : w2.cell? ⟨w.heap.size + 1, 3, none⟩ = some (.slice a.A a.K.length a.c) := cell_row hx5 3
  clear hx4 hx5 HW1
  go_wp2_with (first
    | (go_at_call 34; go_must (refine HRA.out.mono ?_; rintro e w3 ⟨vS3, vQ3, rfl, hr3, hb3⟩; have hx6 := old_heap HX6'.out hb3; have n0 : w3.cell? ⟨w.heap.size + 1 + 1, 0, none⟩ = some (.slice none 0 0) := cell_row hx6 0; have n1 : w3.cell? ⟨w.heap.size + 1 + 1, 1, none⟩ = some (.slice none 0 0) := cell_row hx6 1; have n2 : w3.cell? ⟨w.heap.size + 1 + 1, 2, none⟩ = some (.bool false) := cell_row hx6 2; have n3 : w3.cell? ⟨w.heap.size + 1 + 1, 3, none⟩ = some (.int .i64 0) := cell_row hx6 3; have n4 : w3.cell? ⟨w.heap.size + 1 + 1, 4, none⟩ = some (.int .i64 0) := cell_row hx6 4; have m0 := free_row hx6 0; have m1 := free_row hx6 1; have m2 := free_row hx6 2; have m3 := free_row hx6 3; have m4 := free_row hx6 4; have HX63 := Lib.hid hx6; have HB3 := Lib.hid hb3; have HR3 := Lib.hid hr3; obtain ⟨A8, c8, rfl, _⟩ := hr3.secs; obtain ⟨A9, c9, rfl, _⟩ := hr3.que; clear hx6 hb3 hr3)))
  rw [← set5]
  have h5 := set5_heap (a' := .slice A8 (crashD D a.K).S.length c8) (b' := .slice A9 (crashD D a.K).Q.length c9) (c' := .bool (crashD D a.K).dead) (d' := .int .i64 (crashD D a.K).arm) (e' := .int .i64 (crashD D a.K).deeds) HX63.out
  exact bodyPost_ret (results_cell2 Try.results19 rfl rfl (load_rdisk h5)) rfl ⟨vq2, _, _, rfl, do_end HD2.out HR3.out HB3.out HBB.out (by omega) (by omega) hszw2 HB.out.size (ft_new hn6 HN2.out (by omega)) ((Keep.of_below HB1.out).trans HK2.out) (fun k hk => by rcases HN2.out k hk with e | e; exact .inl e; exact .inr (by omega))⟩
set_option maxRecDepth 100000 in
set_option maxHeartbeats 8000000 in
theorem ldo_flush {X : Nat → Prop} {w0 w : World} {p gS m : Nat} {vq vS vQ : Value} {D : Dk} (h : DkAt w w0.heap.size p gS vq D) (hr : RefAt w (FtX X p gS vq) vS vQ D) (hX : ∀ k, X k → k < w.heap.size) (hm : m ≤ 900) (ho : DOk D m) (hS1 : 1 ≤ D.S.length) (hS : D.S.length ≤ 65536) (a : Ac) (ha : AcOk w0 a) (hb : Below w0.heap.size w0 w) (hk : a.kind = 2) :
    Calls Try.prog 19 #[.pointer (some ⟨p, 0, none⟩), rdV D vS vQ, .agg (acV a).toArray] w (DoTo X w0 w p gS vq (flushD D).1) := by
  have HR := Lib.hid hr
  obtain ⟨A, c, rfl, _⟩ := hr.secs
  obtain ⟨A2, c2, rfl, _⟩ := hr.que
  have HB := Lib.hid hb
  have HFl := Lib.hid (Ft.lt h)
  unfold rdV acV
  rw [hk]
  obtain ⟨w1, hw1, hb1, hx4, hx5, hx6, hsz1⟩ := acts_boxes w (.slice A D.S.length c) (.slice A2 D.Q.length c2) (.bool D.dead) (.int .i64 D.arm) (.int .i64 D.deeds) (.int .i64 2) (.int .i64 a.at_) a.vS (.slice a.A a.K.length a.c)
  have HX4 := Lib.hid hx4
  have HX5 := Lib.hid hx5
  have HX6 := Lib.hid hx6
  have HB1 := Lib.hid hb1
  have HW1 := Lib.hid hw1
  have hac := ha.below (hb.trans (hb1.mono hb.size))
  have HAC := Lib.hid ha
  have HAR := Lib.hid (dflush_any (h.below hb1) (m := m) (by omega) ho)
  have hgeF := Ft.ge h
  have HGF := Lib.hid hgeF
  have hn4 : ¬ Ft p gS vq w.heap.size := fun e => by have := HFl.out _ e; omega
  have hn5 : ¬ Ft p gS vq (w.heap.size + 1) := fun e => by have := HFl.out _ e; omega
  have hn6 : ¬ Ft p gS vq (w.heap.size + 1 + 1) := fun e => by have := HFl.out _ e; omega
  have j0 : w1.cell? ⟨w.heap.size + 1, 0, none⟩ = some (.int .i64 2) := cell_row hx5 0; have j1 : w1.cell? ⟨w.heap.size + 1, 1, none⟩ = some (.int .i64 a.at_) := cell_row hx5 1; have j2 : w1.cell? ⟨w.heap.size + 1, 2, none⟩ = some (a.vS) := cell_row hx5 2; have j3 : w1.cell? ⟨w.heap.size + 1, 3, none⟩ = some (.slice a.A a.K.length a.c) := cell_row hx5 3
  clear h hr hb hw1 hb1 hx4 hx5 hx6 hac ha hgeF
  go_enter Try.func19, Try.ntmps19
  go_upto_region 1 with fail
  rw [HW1.out]
  go_upto_region 12 with (first
    | (go_at_call 17; go_must (refine HAR.out.mono ?_; rintro e w2 ⟨rfl, vq2, hd2, hk2, hn2⟩; have HD2 := Lib.hid hd2; have HK2 := Lib.hid hk2; have HN2 := Lib.hid hn2; clear hd2 hk2 hn2)))
  have hx4 := HK2.out.heap HX4.out hn4
  have hx5 := HK2.out.heap HX5.out hn5
  have HX6' := Lib.hid (HK2.out.heap HX6.out hn6)
  have hszw2 : w1.heap.size ≤ w2.heap.size := HK2.out.size
  have hr2 : RefAt w2 (Fx X p gS vq2 w w1) (.slice A D.S.length c) (.slice A2 D.Q.length c2) D := ((HR.out.fx2 HK2.out HN2.out HB1.out))
  have hF2 : ∀ k, Fx X p gS vq2 w w1 k → k < w2.heap.size := Fx.lt HD2.out hX (by omega) hszw2
  have hB2 : Below w0.heap.size w0 w2 := (HB.out.trans (HB1.out.mono HB.out.size)).trans (HK2.out.below (fun k e => HGF.out k e) (by have := HB.out.size; omega))
  have HRA := Lib.hid (rflush3_any (w := w2) (m := m) hr2 hF2 (by omega) ho hS1 hS)
  unfold RPutTo rdV at HRA
  have HBB := Lib.hid hB2
  clear j0 j1 j2 j3 HAR HX4 HX5 HX6 hr2 hF2 hB2
  have k0 : w2.cell? ⟨w.heap.size, 0, none⟩ = some (.slice A D.S.length c) := cell_row hx4 0; have k1 : w2.cell? ⟨w.heap.size, 1, none⟩ = some (.slice A2 D.Q.length c2) := cell_row hx4 1; have k2 : w2.cell? ⟨w.heap.size, 2, none⟩ = some (.bool D.dead) := cell_row hx4 2; have k3 : w2.cell? ⟨w.heap.size, 3, none⟩ = some (.int .i64 D.arm) := cell_row hx4 3; have k4 : w2.cell? ⟨w.heap.size, 4, none⟩ = some (.int .i64 D.deeds) := cell_row hx4 4
  have j0 : w2.cell? ⟨w.heap.size + 1, 0, none⟩ = some (.int .i64 2) := cell_row hx5 0; have j1 : w2.cell? ⟨w.heap.size + 1, 1, none⟩ = some (.int .i64 a.at_) := cell_row hx5 1; have j2 : w2.cell? ⟨w.heap.size + 1, 2, none⟩ = some (a.vS) := cell_row hx5 2; have j3 : w2.cell? ⟨w.heap.size + 1, 3, none⟩ = some (.slice a.A a.K.length a.c) := cell_row hx5 3
  clear hx4 hx5 HW1
  have HFE := Lib.hid (rfl : (flushD D).2 = (flushD D).2)
  generalize (flushD D).2 = E at HRA ⊢
  have t6 : (E == E) = true := by simp
  go_wp2_with (first
    | (go_at_call 32; go_must (refine HRA.out.mono ?_; rintro e w3 ⟨vS3, vQ3, rfl, hr3, hb3⟩; have hx6 := old_heap HX6'.out hb3; have n0 : w3.cell? ⟨w.heap.size + 1 + 1, 0, none⟩ = some (.slice none 0 0) := cell_row hx6 0; have n1 : w3.cell? ⟨w.heap.size + 1 + 1, 1, none⟩ = some (.slice none 0 0) := cell_row hx6 1; have n2 : w3.cell? ⟨w.heap.size + 1 + 1, 2, none⟩ = some (.bool false) := cell_row hx6 2; have n3 : w3.cell? ⟨w.heap.size + 1 + 1, 3, none⟩ = some (.int .i64 0) := cell_row hx6 3; have n4 : w3.cell? ⟨w.heap.size + 1 + 1, 4, none⟩ = some (.int .i64 0) := cell_row hx6 4; have m0 := free_row hx6 0; have m1 := free_row hx6 1; have m2 := free_row hx6 2; have m3 := free_row hx6 3; have m4 := free_row hx6 4; have hs63 := (Array.getElem?_eq_some_iff.1 hx6).1; have HX63 := Lib.hid hx6; have HB3 := Lib.hid hb3; have HR3 := Lib.hid hr3; obtain ⟨A8, c8, rfl, _⟩ := hr3.secs; obtain ⟨A9, c9, rfl, _⟩ := hr3.que; clear hx6 hb3 hr3)))
  rw [← set5]
  have h5 := set5_heap (a' := .slice A8 (flushD D).1.S.length c8) (b' := .slice A9 (flushD D).1.Q.length c9) (c' := .bool (flushD D).1.dead) (d' := .int .i64 (flushD D).1.arm) (e' := .int .i64 (flushD D).1.deeds) HX63.out
  have h5' := old_heap h5 ((Below.refl _ _).alloc (Nat.le_refl _) (.cells #[.slice A8 (flushD D).1.S.length c8, .slice A9 (flushD D).1.Q.length c9, .bool (flushD D).1.dead, .int .i64 (flushD D).1.arm, .int .i64 (flushD D).1.deeds] 43))
  exact bodyPost_ret (results_cell2 Try.results19 rfl rfl (load_rdisk h5')) rfl ⟨vq2, _, _, rfl, do_alloc _ (do_end HD2.out HR3.out HB3.out HBB.out (by omega) (by omega) hszw2 HB.out.size (ft_new hn6 HN2.out (by omega)) ((Keep.of_below HB1.out).trans HK2.out) (fun k hk => by rcases HN2.out k hk with e | e; exact .inl e; exact .inr (by omega)))⟩
end Go.Proofs.Ytiehfaiadhhndaa
