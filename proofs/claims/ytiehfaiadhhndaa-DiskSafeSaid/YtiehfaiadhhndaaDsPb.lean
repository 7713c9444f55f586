/-
  DiskPlays: the walk.
-/
import Derived.Test.YtiehfaiadhhndaaDsPa
namespace Go.Proofs.Ytiehfaiadhhndaa
open Go.RowKit
set_option linter.unusedVariables false
set_option linter.unusedSimpArgs false
set_option linter.unnecessarySimpa false
theorem acV_len (a : Ac) : (acV a).length = 4 := rfl
def dskB (D : Dk) (vS vQ : Value) : Array Value := #[vS, vQ, .bool D.dead, .int .i64 D.arm, .int .i64 D.deeds]
def S7 (p6 : Nat) (v : Array Value) (b o : Nat) (a : Ac) (w' : World) : Prop := R20S p6 v w' ∧ w'.cell? ⟨b, o, none⟩ = some (.int .i64 a.kind) ∧ w'.cell? ⟨b, o + 1, none⟩ = some (.int .i64 a.at_) ∧ w'.cell? ⟨b, o + 2, none⟩ = some a.vS ∧ w'.cell? ⟨b, o + 3, none⟩ = some (.slice a.A a.K.length a.c)
theorem S7.keep {p6 b o : Nat} {v : Array Value} {a : Ac} {F : Nat → Prop} {w w' : World} (h : S7 p6 v b o a w) (hk : Keep F w w') (h6 : ¬ F p6) (hb : ¬ F b) : S7 p6 v b o a w' :=
  ⟨⟨hk.cell h.1.1 h6, hk.cell h.1.2.1 h6, hk.cell h.1.2.2.1 h6, hk.cell h.1.2.2.2.1 h6, hk.cell h.1.2.2.2.2 h6⟩, hk.cell h.2.1 hb, hk.cell h.2.2.1 hb, hk.cell h.2.2.2.1 hb, hk.cell h.2.2.2.2 hb⟩
theorem S7.below {p6 b o : Nat} {v : Array Value} {a : Ac} {w w' : World} (h : S7 p6 v b o a w) (hb : Below w.heap.size w w') : S7 p6 v b o a w' := h.keep (Keep.of_below (F := fun _ => False) hb) (fun e => e) (fun e => e)
theorem RefAt.addX {w W : World} {p gS p6 g8 : Nat} {vq vS vQ : Value} {D : Dk} (h : RefAt w (FtX (fun k => k = p6) p gS vq) vS vQ D) (hb : Below w.heap.size w W) (hg : w.heap.size ≤ g8) : RefAt W (FtX (fun k => k = p6 ∨ k = g8) p gS vq) vS vQ D :=
  (h.foot (fun b hb hf => by rcases hf with hf | hf | hf; exact .inl hf; exact .inr hf; omega)).below hb
/-- Behind an act: the disk, its reference, and the two boxes. -/
structure S7End (w0 w : World) (p gS p6 g8 : Nat) (vq vq' vS vQ : Value) (D : Dk) (W : World) : Prop where
  disk : DkAt W w0.heap.size p gS vq' D
  ref : RefAt W (FtX (fun k => k = p6 ∨ k = g8) p gS vq') vS vQ D
  below : Below w0.heap.size w0 W
  n6 : ¬ Ft p gS vq' p6
  n8 : ¬ Ft p gS vq' g8
theorem S7End.mk' {w0 w wc W : World} {p gS p6 g8 : Nat} {vq vq' vS vQ : Value} {D : Dk} {o : Obj} (h : DoEnd (fun k => k = p6) w0 wc p gS vq vq' vS vQ D W) (_ : ∀ k : Nat, k = k → k = k) (hg : W.heap.size ≤ g8) (hb : Below W.heap.size W (W.alloc o)) (hwc : Below w.heap.size w wc) (h6 : ¬ Ft p gS vq p6) (hp6 : p6 < w.heap.size) : S7End w0 w p gS p6 g8 vq vq' vS vQ D (W.alloc o) := by
  refine ⟨h.disk.below hb, (h.ref.foot (fun b hb hf => by rcases hf with hf | hf | hf; exact .inl hf; exact .inr hf; omega)).below hb, h.below.trans (hb.mono h.below.size), ft_new h6 h.new (by have := hwc.size; omega), fun e => by have := Ft.lt h.disk g8 e; omega⟩
theorem S7End.mk2 {w0 w wc W : World} {p gS p6 g8 : Nat} {vq vq' vS vQ : Value} {D : Dk} (h : DoEnd (fun k => k = p6 ∨ k = g8) w0 wc p gS vq vq' vS vQ D W) (hwc : Below w.heap.size w wc) (h6 : ¬ Ft p gS vq p6) (h8 : ¬ Ft p gS vq g8) (hp6 : p6 < w.heap.size) (hg : g8 < wc.heap.size) : S7End w0 w p gS p6 g8 vq vq' vS vQ D W :=
  ⟨h.disk, h.ref, h.below, ft_new h6 h.new (by have := hwc.size; omega), ft_new h8 h.new hg⟩
theorem S7End.set8 {w0 w W : World} {p gS p6 g8 : Nat} {vq vq' vS vQ a b c d e : Value} {D : Dk} (h : S7End w0 w p gS p6 g8 vq vq' vS vQ D W) (hg : w0.heap.size ≤ g8) : S7End w0 w p gS p6 g8 vq vq' vS vQ D (set5 W g8 a b c d e) := by
  have hk5 := tape_set5 (w := W) (g := g8) (a := a) (b := b) (c := c) (d := d) (e := e)
  exact ⟨h.disk.keep hk5 (fun e => h.n8 (.inl e.symm)) (fun e => h.n8 (.inr (.inl e.symm))) (fun k hk e => h.n8 (.inr (.inr (by rw [hk, e])))), h.ref.keep (Keep.mono hk5 (fun k e => .inr (.inr e))), set5_below h.below hg, h.n6, h.n8⟩
structure PlSt (w : World) (p gS p6 n k : Nat) (vq vS vQ : Value) (D : Dk) (wr : World) : Prop where
  disk : DkAt wr w.heap.size p gS vq D
  ref : RefAt wr (FtX (fun k => k = p6) p gS vq) vS vQ D
  ok : DOk D k
  len : D.S.length = n
  box : wr.heap[p6]? = some (.cells (dskB D vS vQ) 43 (0, 0))
  below : Below w.heap.size w wr
  n6 : ¬ Ft p gS vq p6
theorem S7End.next {w wr W wI : World} {p gS p6 g8 n j : Nat} {vq vq' vS vQ a b c d e : Value} {D : Dk} (h : S7End w wr p gS p6 g8 vq vq' vS vQ D W) (hb : Below W.heap.size W wI) (h6 : wI.heap[p6]? = some (.cells #[a, b, c, d, e] 43 (0, 0))) (hI : w.heap.size ≤ wI.heap.size) (ho : DOk D (j + 1)) (hl : D.S.length = n) (hp : w.heap.size ≤ p6) :
    PlSt w p gS p6 n (j + 1) vq' vS vQ D (set5 wI p6 vS vQ (.bool D.dead) (.int .i64 D.arm) (.int .i64 D.deeds)) := by
  have hk5 := tape_set5 (w := wI) (g := p6) (a := vS) (b := vQ) (c := .bool D.dead) (d := .int .i64 D.arm) (e := .int .i64 D.deeds)
  exact ⟨(h.disk.below hb).keep hk5 (fun e => h.n6 (.inl e.symm)) (fun e => h.n6 (.inr (.inl e.symm))) (fun k hk e => h.n6 (.inr (.inr (by rw [hk, e])))),
    ((h.ref.foot (fun b hb hf => by rcases hf with hf | hf; exact .inl hf; exact .inr (.inl hf))).below hb).keep (Keep.mono hk5 (fun k e => .inr e)), ho, hl, set5_heap h6, set5_below (h.below.trans (hb.mono h.below.size)) hp, h.n6⟩
set_option maxRecDepth 100000 in
set_option maxHeartbeats 8000000 in
theorem diskPlays_walk (n : Int) (A : Option Addr) (c : Nat) (L : List Ac) (w : World) (hn : -9223372036854775808 ≤ n ∧ n ≤ 9223372036854775807) (hL : L.length ≤ 9223372036854775807) (hv : ReadAt w A acV 4 L) (hac : ∀ a ∈ L, AcOk w a) :
    Calls Try.prog 5 #[.int .i64 n, .slice A L.length c] w (RetT w true) := by
  have HV := Lib.hid hv
  have HACS := Lib.hid hac
  clear hv hac
  have HSZ := fun W => Lib.hid (lsized_any (fun _ => False) n W hn (fun _ h => h.elim))
  have hn1 := (szN_eq n).2
  unfold SizedTo rdV at HSZ
  go_enter Try.func5, Try.ntmps5
  go_upto_region 4 with (first
    | (go_at_call 8; go_must (refine (awake03 _).mono ?_; rintro e w1 ⟨rfl, hb1⟩; have HB1 := Lib.hid hb1; clear hb1))
    | (go_at_call 18; go_must (refine (HSZ _).out.mono ?_; rintro e w2 ⟨p, gS, vS2, rfl, hd2, hr2, hb2⟩; obtain ⟨A2, c2, rfl, _⟩ := hr2.secs; have HD2 := Lib.hid (hd2.low HB1.out.size); have HR2 := Lib.hid hr2; have HB2 := Lib.hid (bnext HB1.out hb2); clear hd2 hr2 hb2)))
  have hsz2 := HB2.out.size
  have hbA : Below w2.heap.size w2 (w2.alloc (.cells (dskB (dk0 (szN n)) (.slice A2 (dk0 (szN n)).S.length c2) (.slice none 0 0)) 43)) := (Below.refl _ w2).alloc (Nat.le_refl _) _
  have hst : PlSt w p gS w2.heap.size (szN n) 0 (.slice none 0 0) (.slice A2 (dk0 (szN n)).S.length c2) (.slice none 0 0) (dk0 (szN n)) (w2.alloc (.cells (dskB (dk0 (szN n)) (.slice A2 (dk0 (szN n)).S.length c2) (.slice none 0 0)) 43)) := by
    have hl : (dk0 (szN n)).S.length = szN n := by simp [dk0]
    have hr := HR2.out
    refine ⟨HD2.out.below hbA, (hr.foot (fun b hb hf => by rcases hf with hf | hf; exact .inl hf; omega)).below hbA, ⟨by simp [dk0], by simp [dk0], by simp [dk0], by simp [dk0]⟩, hl, new_heap w2 _, bnext HB2.out hbA, fun e => by have := Ft.lt HD2.out _ e; omega⟩
  have hp6' : w2.heap.size < (w2.alloc (.cells (dskB (dk0 (szN n)) (.slice A2 (dk0 (szN n)).S.length c2) (.slice none 0 0)) 43)).heap.size := by simp
  unfold dskB at hst hp6'
  clear hbA HD2 HR2 HB2 HSZ HB1
  revert hst hp6'
  generalize w2.alloc (.cells #[.slice A2 (dk0 (szN n)).S.length c2, .slice none 0 0, .bool (dk0 (szN n)).dead, .int .i64 (dk0 (szN n)).arm, .int .i64 (dk0 (szN n)).deeds] 43) = w3
  have hp6w : w.heap.size ≤ w2.heap.size := hsz2
  revert hp6w
  generalize w2.heap.size = p6
  intro hp6w hst hp6'
  have HST := Lib.hid hst
  clear hst
  go_wp2
  go_loopw [7] (fun i wr => ∃ k : Nat, k ≤ L.length ∧ k ≤ 40 ∧ i = .int .i64 (k : Int) ∧ Hid (∃ vq vS vQ D, PlSt w p gS p6 (szN n) k vq vS vQ D wr)) (fun i _ => (40 - intOf i).toNat)
  case atStart => exact ⟨0, by omega, by omega, by rfl, Lib.hid ⟨_, _, _, _, HST.out⟩⟩
  case round =>
    obtain ⟨j, hj, hj40, rfl, HJ⟩ := hrel
    obtain ⟨vq, vS, vQ, D, hs⟩ := HJ.out
    have HS := Lib.hid hs
    by_cases hgo : j < L.length ∧ j < 40
    · obtain ⟨hlt, h40⟩ := hgo
      have hlt' : (j : Int) < (L.length : Int) := by omega
      have h40' : (j : Int) < 40 := by omega
      obtain ⟨a, haj⟩ : ∃ a, L[j]? = some a := ⟨_, List.getElem?_eq_getElem hlt⟩
      obtain ⟨ab, ao, rfl, hrow⟩ := HV.out (fun e => by rw [e] at hlt; exact absurd hlt (Nat.not_lt_zero _))
      have hac := HACS.out a (List.mem_of_getElem? haj)
      have HAC := Lib.hid hac
      have c0 := hrow j a haj 0 (by decide)
      have c1 := hrow j a haj 1 (by decide)
      have c2' := hrow j a haj 2 (by decide)
      have c3 := hrow j a haj 3 (by decide)
      have hab : ab < w.heap.size := World.block_lt_of_cell? w _ c0
      have hbw := hs.below
      have HBw := Lib.hid hbw
      have d0 := (hbw.cell (p := ⟨ab, ao + j * 4 + 0, none⟩) hab).trans c0
      have d1 := (hbw.cell (p := ⟨ab, ao + j * 4 + 1, none⟩) hab).trans c1
      have d2 := (hbw.cell (p := ⟨ab, ao + j * 4 + 2, none⟩) hab).trans c2'
      have d3 := (hbw.cell (p := ⟨ab, ao + j * 4 + 3, none⟩) hab).trans c3
      obtain ⟨AS, cS, rfl, _⟩ := hs.ref.secs
      obtain ⟨AQ, cQ, rfl, _⟩ := hs.ref.que
      have hS7 : S7 p6 #[.slice AS D.S.length cS, .slice AQ D.Q.length cQ, .bool D.dead, .int .i64 D.arm, .int .i64 D.deeds] ab (ao + j * 4) a wr := ⟨⟨cell_row hs.box 0, cell_row hs.box 1, cell_row hs.box 2, cell_row hs.box 3, cell_row hs.box 4⟩, d0, d1, d2, d3⟩
      have HS7 := Lib.hid hS7
      have HD := Lib.hid hs.disk
      have HR := Lib.hid hs.ref
      have hok := hs.ok
      have hSn := hs.len
      have H6 := Lib.hid hs.box
      have hn6 := hs.n6
      have hp6 : p6 < wr.heap.size := (Array.getElem?_eq_some_iff.1 hs.box).1
      have hge := Ft.ge hs.disk
      have hlt := Ft.lt hs.disk
      have hS1 : 1 ≤ D.S.length := by omega
      have hm9 : j ≤ 900 := by omega
      have hj0 : (0 : Int) ≤ (j : Int) := by omega
      have HSN := Lib.hid hSn
      clear hSn hrow haj c0 c1 c2' c3 d0 d1 d2 d3 hbw hs hS7 hac HST HJ HV
      go_upto_region 7 with fail
      have hbd := (Below.refl wr.heap.size wr).drew
      refine wp_region_F (S := (S7 p6 #[.slice AS D.S.length cS, .slice AQ D.Q.length cQ, .bool D.dead, .int .i64 D.arm, .int .i64 D.deeds] ab (ao + j * 4) a)) 12 (by kernel_rfl) (by exact HS7.out) (fun hHeld => ?_)
      refine take1F (i := 0) (v := ?_) (a' := ?_) (some 28) #[true, false, false, false, false, false, false, false, false, false, false, false, false] rfl rfl (by kernel_rfl) (fun _ _ _ h => h) (Or.inl ⟨by rfl, ?_⟩) hHeld ?_ ?_
      rotate_left
      · (intro w hSw; (try dsimp only at hSw); obtain ⟨⟨s1, s2, s3, s4, s5⟩, s6, s7, s8, s9⟩ := hSw; go_simp; (try with_reducible rfl))
      rotate_left
      · simp only [Act.put, List.setIfInBounds_toArray, List.set_cons_zero, List.set_cons_succ]
        rfl
      refine take1F (i := 1) (v := ?_) (a' := ?_) (some 29) #[true, true, false, false, false, false, false, false, false, false, false, false, false] rfl rfl (by kernel_rfl) (fun _ _ _ h => h) (Or.inl ⟨by rfl, ?_⟩) hHeld ?_ ?_
      rotate_left
      · (intro w hSw; (try dsimp only at hSw); obtain ⟨⟨s1, s2, s3, s4, s5⟩, s6, s7, s8, s9⟩ := hSw; go_simp; (try with_reducible rfl))
      rotate_left
      · simp only [Act.put, List.setIfInBounds_toArray, List.set_cons_zero, List.set_cons_succ]
        rfl
      refine take1F (i := 2) (v := ?_) (a' := ?_) (some 30) #[true, true, true, false, false, false, false, false, false, false, false, false, false] rfl rfl (by kernel_rfl) (fun _ _ _ h => h) (Or.inl ⟨by rfl, ?_⟩) hHeld ?_ ?_
      rotate_left
      · (intro w hSw; (try dsimp only at hSw); obtain ⟨⟨s1, s2, s3, s4, s5⟩, s6, s7, s8, s9⟩ := hSw; go_simp; (try with_reducible rfl))
      rotate_left
      · simp only [Act.put, List.setIfInBounds_toArray, List.set_cons_zero, List.set_cons_succ]
        rfl
      refine take1F (i := 3) (v := ?_) (a' := ?_) (some 31) #[true, true, true, true, false, false, false, false, false, false, false, false, false] rfl rfl (by kernel_rfl) (fun _ _ _ h => h) (Or.inl ⟨by rfl, ?_⟩) hHeld ?_ ?_
      rotate_left
      · (intro w hSw; (try dsimp only at hSw); obtain ⟨⟨s1, s2, s3, s4, s5⟩, s6, s7, s8, s9⟩ := hSw; go_simp; (try with_reducible rfl))
      rotate_left
      · simp only [Act.put, List.setIfInBounds_toArray, List.set_cons_zero, List.set_cons_succ]
        rfl
      refine take1F (i := 4) (v := ?_) (a' := ?_) (some 32) #[true, true, true, true, true, false, false, false, false, false, false, false, false] rfl rfl (by kernel_rfl) (fun _ _ _ h => h) (Or.inl ⟨by rfl, ?_⟩) hHeld ?_ ?_
      rotate_left
      · (intro w hSw; (try dsimp only at hSw); obtain ⟨⟨s1, s2, s3, s4, s5⟩, s6, s7, s8, s9⟩ := hSw; go_simp; (try with_reducible rfl))
      rotate_left
      · simp only [Act.put, List.setIfInBounds_toArray, List.set_cons_zero, List.set_cons_succ]
        rfl
      refine take1F (i := 5) (v := ?_) (a' := ?_) (some 33) #[true, true, true, true, true, true, false, false, false, false, false, false, false] rfl rfl (by kernel_rfl) (fun _ _ _ h => h) (Or.inl ⟨by rfl, ?_⟩) hHeld ?_ ?_
      rotate_left
      · (intro w hSw; (try dsimp only at hSw); obtain ⟨⟨s1, s2, s3, s4, s5⟩, s6, s7, s8, s9⟩ := hSw; go_simp; (try with_reducible rfl))
      rotate_left
      · simp only [Act.put, List.setIfInBounds_toArray, List.set_cons_zero, List.set_cons_succ]
        rfl
      clear HS7
      revert hHeld hbd
      generalize wr.drew = wd
      intro hbd hHeld
      refine fork2F (i := 6) (j := 10) (some 34) (some 8) #[true, true, true, true, true, true, true, false, false, false, false, false, false] #[true, true, true, true, true, true, false, false, false, false, true, false, false] rfl rfl rfl rfl (by kernel_rfl) (fun K hK => ?_) (fun K hK => ?_)
      · go_simp
        go_at_call 19
        have hbc : Below wr.heap.size wr wd := hbd
        have HDO := Lib.hid (ldo_any (X := fun k => k = p6) (HD.out.below hbc) ((HR.out.below hbc)) ((fun k e => by subst e; have := hbc.size; omega)) hm9 hok hS1 (by rw [HSN.out]; omega) a (HAC.out) (HBw.out.trans (hbc.mono HBw.out.size)))
        unfold rdV acV at HDO
        refine HDO.out.mono ?_
        clear HDO
        rintro e w7 ⟨vq7, vS7, vQ7, rfl, hde⟩
        obtain ⟨A8, c8, rfl, _⟩ := hde.ref.secs
        obtain ⟨A9, c9, rfl, _⟩ := hde.ref.que
        unfold rdV
        have HDE := Lib.hid hde
        have hnx : S7 p6 #[.slice AS D.S.length cS, .slice AQ D.Q.length cQ, .bool D.dead, .int .i64 D.arm, .int .i64 D.deeds] ab (ao + j * 4) a w7 := hHeld.keep hde.keep hn6 (fun e => by have := hge ab e; omega)
        have H6' := Lib.hid (hde.keep.heap (old_heap H6.out hbc) hn6)
        clear H6
        have H6 := H6'
        clear H6'
        refine hK.out _ _ hnx (fun hHeld' => ?_)
        clear hK K hHeld hnx
        have hHeld := hHeld'
        clear hHeld'
        (try simp only [Act.put, List.setIfInBounds_toArray, List.set_cons_zero, List.set_cons_succ])
        refine take1F (i := 7) (v := ?_) (a' := ?_) (some 27) #[true, true, true, true, true, true, true, true, false, false, false, false, false] rfl rfl (by kernel_rfl) (fun _ _ _ h => h) (Or.inl ⟨by rfl, ?_⟩) hHeld ?_ ?_
        rotate_left
        · (intro w hSw; (try dsimp only at hSw); go_simp; (try with_reducible rfl))
        rotate_left
        · simp only [Act.put, List.setIfInBounds_toArray, List.set_cons_zero, List.set_cons_succ]
          rfl
        refine take1F (i := 8) (v := ?_) (a' := ?_) (some 35) #[true, true, true, true, true, true, true, true, true, false, false, false, false] rfl rfl (by kernel_rfl) (fun _ _ _ h => h) (Or.inl ⟨by rfl, ?_⟩) hHeld ?_ ?_
        rotate_left
        · (intro w hSw; (try dsimp only at hSw); go_simp; (try with_reducible rfl))
        rotate_left
        · simp only [Act.put, List.setIfInBounds_toArray, List.set_cons_zero, List.set_cons_succ]
          rfl
        refine take1F (i := 9) (v := ?_) (a' := ?_) (some 36) #[true, true, true, true, true, true, true, true, true, true, false, false, false] rfl rfl (by kernel_rfl) (fun _ _ _ h => h) (Or.inl ⟨by rfl, ?_⟩) hHeld ?_ ?_
        rotate_left
        · (intro w hSw; (try dsimp only at hSw); go_simp; (try with_reducible rfl))
        rotate_left
        · simp only [Act.put, List.setIfInBounds_toArray, List.set_cons_zero, List.set_cons_succ]
          rfl
        refine loud1F (i := 10) (some 8) #[true, true, true, true, true, true, true, true, true, true, true, false, false] rfl rfl (by kernel_rfl) (fun K hK => ?_)
        go_simp
        have hbA := (Below.refl w7.heap.size w7).alloc (Nat.le_refl _) (.cells #[.slice none 0 0, .slice none 0 0, .bool false, .int .i64 0, .int .i64 0] 43)
        have H8 := Lib.hid (new_heap w7 (.cells #[.slice none 0 0, .slice none 0 0, .bool false, .int .i64 0, .int .i64 0] 43 (0, 0)))
        have hnx := hHeld.below hbA
        have hg8 : wr.heap.size ≤ w7.heap.size := Nat.le_trans hbc.size HDE.out.keep.size
        have H7 := Lib.hid (S7End.mk' (g8 := w7.heap.size) HDE.out (fun k e => e) (Nat.le_refl _) hbA hbc hn6 hp6)
        have H6' := Lib.hid (old_heap H6.out hbA)
        clear H6 hbA
        have H6 := H6'
        clear H6' HDE
        revert hnx H8 hK H6 H7 hg8
        generalize w7.alloc (.cells #[.slice none 0 0, .slice none 0 0, .bool false, .int .i64 0, .int .i64 0] 43) = w8
        generalize w7.heap.size = g8
        intro hK H8 hnx hg8 H7 H6
        refine hK.out _ _ hnx (fun hHeld' => ?_)
        clear hK K hHeld hnx
        have hHeld := hHeld'
        clear hHeld'
        (try simp only [Act.put, List.setIfInBounds_toArray, List.set_cons_zero, List.set_cons_succ])
        refine loud1F (i := 11) (none) #[true, true, true, true, true, true, true, true, true, true, true, true, false] rfl rfl (by kernel_rfl) (fun K hK => ?_)
        have h8 := H8.out
        have n0 : w8.cell? ⟨g8, 0, none⟩ = some (.slice none 0 0) := cell_row h8 0; have n1 : w8.cell? ⟨g8, 1, none⟩ = some (.slice none 0 0) := cell_row h8 1; have n2 : w8.cell? ⟨g8, 2, none⟩ = some (.bool false) := cell_row h8 2; have n3 : w8.cell? ⟨g8, 3, none⟩ = some (.int .i64 0) := cell_row h8 3; have n4 : w8.cell? ⟨g8, 4, none⟩ = some (.int .i64 0) := cell_row h8 4
        have m0 := free_row h8 0; have m1 := free_row h8 1; have m2 := free_row h8 2; have m3 := free_row h8 3; have m4 := free_row h8 4
        go_simp
        rw [← set5]
        have hne6 : p6 ≠ g8 := by omega
        have hneb : ab ≠ g8 := by have := H7.out.below.size; have := HBw.out.size; omega
        have hnx := hHeld.keep (tape_set5 (w := w8) (g := g8) (a := .slice A8 (actD D a).S.length c8) (b := .slice A9 (actD D a).Q.length c9) (c := .bool (actD D a).dead) (d := .int .i64 (actD D a).arm) (e := .int .i64 (actD D a).deeds)) hne6 hneb
        have HH8 := Lib.hid (set5_heap (a' := .slice A8 (actD D a).S.length c8) (b' := .slice A9 (actD D a).Q.length c9) (c' := .bool (actD D a).dead) (d' := .int .i64 (actD D a).arm) (e' := .int .i64 (actD D a).deeds) h8)
        have H79 := Lib.hid (H7.out.set8 (by have := HBw.out.size; omega) (a := .slice A8 (actD D a).S.length c8) (b := .slice A9 (actD D a).Q.length c9) (c := .bool (actD D a).dead) (d := .int .i64 (actD D a).arm) (e := .int .i64 (actD D a).deeds))
        have H69 := Lib.hid ((set5_far (g := g8) (w := w8) (a := .slice A8 (actD D a).S.length c8) (b := .slice A9 (actD D a).Q.length c9) (c := .bool (actD D a).dead) (d := .int .i64 (actD D a).arm) (e := .int .i64 (actD D a).deeds) hne6).trans H6.out)
        clear h8 n0 n1 n2 n3 n4 m0 m1 m2 m3 m4 H8 H7 H6
        revert HH8 H79 H69 hnx hK
        generalize set5 w8 g8 (.slice A8 (actD D a).S.length c8) (.slice A9 (actD D a).Q.length c9) (.bool (actD D a).dead) (.int .i64 (actD D a).arm) (.int .i64 (actD D a).deeds) = w9
        intro hK hnx HH8 H79 H69
        refine hK.out _ _ hnx (fun hHeld' => ?_)
        clear hK K hHeld hnx
        have hHeld := hHeld'
        clear hHeld'
        (try simp only [Act.put, List.setIfInBounds_toArray, List.set_cons_zero, List.set_cons_succ])
        refine last1F (some 9) #[true, true, true, true, true, true, true, true, true, true, true, true, true] rfl rfl (by kernel_rfl) (fun K hK => ?_)
        go_simp
        refine hK.out _ _ ?_
        clear hK K hHeld
        (try simp only [Act.put, List.setIfInBounds_toArray, List.set_cons_zero, List.set_cons_succ])
        refine wpAnyF_done (by kernel_rfl) ?_ _
        obtain ⟨hoA, hlA⟩ := actD_ok hok HAC.out
        rw [HSN.out] at hlA
        have hQA : (actD D a).Q.length ≤ 1000 := by have := hoA.len; omega
        have HLA := Lib.hid hlA
        have HIS := Lib.hid (lis_any H79.out.disk H79.out.ref hQA (by rw [HLA.out]; omega))
        unfold rdV RetT at HIS
        have h8 := HH8.out
        have n0 : w9.cell? ⟨g8, 0, none⟩ = some (.slice A8 (actD D a).S.length c8) := cell_row h8 0; have n1 : w9.cell? ⟨g8, 1, none⟩ = some (.slice A9 (actD D a).Q.length c9) := cell_row h8 1; have n2 : w9.cell? ⟨g8, 2, none⟩ = some (.bool (actD D a).dead) := cell_row h8 2; have n3 : w9.cell? ⟨g8, 3, none⟩ = some (.int .i64 (actD D a).arm) := cell_row h8 3; have n4 : w9.cell? ⟨g8, 4, none⟩ = some (.int .i64 (actD D a).deeds) := cell_row h8 4
        clear h8 hlA
        go_wp2_with (first
          | (go_at_call 20; go_must (refine HIS.out.mono ?_; rintro e wI ⟨rfl, hbI⟩; clear n0 n1 n2 n3 n4; have h8 := old_heap HH8.out hbI; have h6 := old_heap H69.out hbI; have n0 : wI.cell? ⟨g8, 0, none⟩ = some (.slice A8 (actD D a).S.length c8) := cell_row h8 0; have n1 : wI.cell? ⟨g8, 1, none⟩ = some (.slice A9 (actD D a).Q.length c9) := cell_row h8 1; have n2 : wI.cell? ⟨g8, 2, none⟩ = some (.bool (actD D a).dead) := cell_row h8 2; have n3 : wI.cell? ⟨g8, 3, none⟩ = some (.int .i64 (actD D a).arm) := cell_row h8 3; have n4 : wI.cell? ⟨g8, 4, none⟩ = some (.int .i64 (actD D a).deeds) := cell_row h8 4; have k0 : wI.cell? ⟨p6, 0, none⟩ = some (.slice AS D.S.length cS) := cell_row h6 0; have k1 : wI.cell? ⟨p6, 1, none⟩ = some (.slice AQ D.Q.length cQ) := cell_row h6 1; have k2 : wI.cell? ⟨p6, 2, none⟩ = some (.bool D.dead) := cell_row h6 2; have k3 : wI.cell? ⟨p6, 3, none⟩ = some (.int .i64 D.arm) := cell_row h6 3; have k4 : wI.cell? ⟨p6, 4, none⟩ = some (.int .i64 D.deeds) := cell_row h6 4; have m0 := free_row h6 0; have m1 := free_row h6 1; have m2 := free_row h6 2; have m3 := free_row h6 3; have m4 := free_row h6 4; have H6I := Lib.hid h6; have HBI := Lib.hid hbI; clear h8 h6 hbI)))
        rw [← set5]
        exact ⟨⟨j + 1, by omega, by omega, by go_num, Lib.hid ⟨vq7, _, _, actD D a, H79.out.next HBI.out (old_heap H69.out HBI.out) (Nat.le_trans H79.out.below.size HBI.out.size) hoA HLA.out hp6w⟩⟩, by simp [intOf]; omega⟩
      · go_simp
        have hbA := (Below.refl wd.heap.size wd).alloc (Nat.le_refl _) (.cells #[.slice none 0 0, .slice none 0 0, .bool false, .int .i64 0, .int .i64 0] 43)
        have H8 := Lib.hid (new_heap wd (.cells #[.slice none 0 0, .slice none 0 0, .bool false, .int .i64 0, .int .i64 0] 43 (0, 0)))
        have hnx := hHeld.below hbA
        have hg8 : wr.heap.size ≤ wd.heap.size := hbd.size
        have hbd' := hbd.trans (hbA.mono hbd.size)
        clear hbA hbd
        revert hnx H8 hK hg8 hbd'
        generalize wd.alloc (.cells #[.slice none 0 0, .slice none 0 0, .bool false, .int .i64 0, .int .i64 0] 43) = wg
        generalize wd.heap.size = g8
        intro hK H8 hnx hg8 hbd
        refine hK.out _ _ hnx (fun hHeld' => ?_)
        clear hK K hHeld hnx
        have hHeld := hHeld'
        clear hHeld'
        (try simp only [Act.put, List.setIfInBounds_toArray, List.set_cons_zero, List.set_cons_succ])
        have hg8l := (Array.getElem?_eq_some_iff.1 H8.out).1
        have hn8 : ¬ Ft p gS vq g8 := fun e => by have := hlt g8 e; omega
        refine loud1F (i := 6) (some 34) #[true, true, true, true, true, true, true, false, false, false, true, false, false] rfl rfl (by kernel_rfl) (fun K hK => ?_)
        go_simp
        go_at_call 19
        have hbc : Below wr.heap.size wr wg := hbd
        have HDO := Lib.hid (ldo_any (X := fun k => k = p6 ∨ k = g8) (HD.out.below hbc) ((HR.out.addX hbc hg8)) ((fun k e => by rcases e with e | e; subst e; have := hbc.size; omega; subst e; exact (Array.getElem?_eq_some_iff.1 H8.out).1)) hm9 hok hS1 (by rw [HSN.out]; omega) a (HAC.out) (HBw.out.trans (hbc.mono HBw.out.size)))
        unfold rdV acV at HDO
        refine HDO.out.mono ?_
        clear HDO
        rintro e w7 ⟨vq7, vS7, vQ7, rfl, hde⟩
        obtain ⟨A8, c8, rfl, _⟩ := hde.ref.secs
        obtain ⟨A9, c9, rfl, _⟩ := hde.ref.que
        unfold rdV
        have HDE := Lib.hid hde
        have hnx : S7 p6 #[.slice AS D.S.length cS, .slice AQ D.Q.length cQ, .bool D.dead, .int .i64 D.arm, .int .i64 D.deeds] ab (ao + j * 4) a w7 := hHeld.keep hde.keep hn6 (fun e => by have := hge ab e; omega)
        have H6' := Lib.hid (hde.keep.heap (old_heap H6.out hbc) hn6)
        clear H6
        have H6 := H6'
        clear H6'
        have H8' := Lib.hid (HDE.out.keep.heap H8.out hn8)
        clear H8
        have H8 := H8'
        clear H8'
        have H7 := Lib.hid (S7End.mk2 (g8 := g8) HDE.out hbc hn6 hn8 hp6 hg8l)
        clear HDE
        refine hK.out _ _ hnx (fun hHeld' => ?_)
        clear hK K hHeld hnx
        have hHeld := hHeld'
        clear hHeld'
        (try simp only [Act.put, List.setIfInBounds_toArray, List.set_cons_zero, List.set_cons_succ])
        refine take1F (i := 7) (v := ?_) (a' := ?_) (some 27) #[true, true, true, true, true, true, true, true, false, false, true, false, false] rfl rfl (by kernel_rfl) (fun _ _ _ h => h) (Or.inl ⟨by rfl, ?_⟩) hHeld ?_ ?_
        rotate_left
        · (intro w hSw; (try dsimp only at hSw); go_simp; (try with_reducible rfl))
        rotate_left
        · simp only [Act.put, List.setIfInBounds_toArray, List.set_cons_zero, List.set_cons_succ]
          rfl
        refine take1F (i := 8) (v := ?_) (a' := ?_) (some 35) #[true, true, true, true, true, true, true, true, true, false, true, false, false] rfl rfl (by kernel_rfl) (fun _ _ _ h => h) (Or.inl ⟨by rfl, ?_⟩) hHeld ?_ ?_
        rotate_left
        · (intro w hSw; (try dsimp only at hSw); go_simp; (try with_reducible rfl))
        rotate_left
        · simp only [Act.put, List.setIfInBounds_toArray, List.set_cons_zero, List.set_cons_succ]
          rfl
        refine take1F (i := 9) (v := ?_) (a' := ?_) (some 36) #[true, true, true, true, true, true, true, true, true, true, true, false, false] rfl rfl (by kernel_rfl) (fun _ _ _ h => h) (Or.inl ⟨by rfl, ?_⟩) hHeld ?_ ?_
        rotate_left
        · (intro w hSw; (try dsimp only at hSw); go_simp; (try with_reducible rfl))
        rotate_left
        · simp only [Act.put, List.setIfInBounds_toArray, List.set_cons_zero, List.set_cons_succ]
          rfl
        refine loud1F (i := 11) (none) #[true, true, true, true, true, true, true, true, true, true, true, true, false] rfl rfl (by kernel_rfl) (fun K hK => ?_)
        have h8 := H8.out
        have n0 : w7.cell? ⟨g8, 0, none⟩ = some (.slice none 0 0) := cell_row h8 0; have n1 : w7.cell? ⟨g8, 1, none⟩ = some (.slice none 0 0) := cell_row h8 1; have n2 : w7.cell? ⟨g8, 2, none⟩ = some (.bool false) := cell_row h8 2; have n3 : w7.cell? ⟨g8, 3, none⟩ = some (.int .i64 0) := cell_row h8 3; have n4 : w7.cell? ⟨g8, 4, none⟩ = some (.int .i64 0) := cell_row h8 4
        have m0 := free_row h8 0; have m1 := free_row h8 1; have m2 := free_row h8 2; have m3 := free_row h8 3; have m4 := free_row h8 4
        go_simp
        rw [← set5]
        have hne6 : p6 ≠ g8 := by omega
        have hneb : ab ≠ g8 := by have := H7.out.below.size; have := HBw.out.size; omega
        have hnx := hHeld.keep (tape_set5 (w := w7) (g := g8) (a := .slice A8 (actD D a).S.length c8) (b := .slice A9 (actD D a).Q.length c9) (c := .bool (actD D a).dead) (d := .int .i64 (actD D a).arm) (e := .int .i64 (actD D a).deeds)) hne6 hneb
        have HH8 := Lib.hid (set5_heap (a' := .slice A8 (actD D a).S.length c8) (b' := .slice A9 (actD D a).Q.length c9) (c' := .bool (actD D a).dead) (d' := .int .i64 (actD D a).arm) (e' := .int .i64 (actD D a).deeds) h8)
        have H79 := Lib.hid (H7.out.set8 (by have := HBw.out.size; omega) (a := .slice A8 (actD D a).S.length c8) (b := .slice A9 (actD D a).Q.length c9) (c := .bool (actD D a).dead) (d := .int .i64 (actD D a).arm) (e := .int .i64 (actD D a).deeds))
        have H69 := Lib.hid ((set5_far (g := g8) (w := w7) (a := .slice A8 (actD D a).S.length c8) (b := .slice A9 (actD D a).Q.length c9) (c := .bool (actD D a).dead) (d := .int .i64 (actD D a).arm) (e := .int .i64 (actD D a).deeds) hne6).trans H6.out)
        clear h8 n0 n1 n2 n3 n4 m0 m1 m2 m3 m4 H8 H7 H6
        revert HH8 H79 H69 hnx hK
        generalize set5 w7 g8 (.slice A8 (actD D a).S.length c8) (.slice A9 (actD D a).Q.length c9) (.bool (actD D a).dead) (.int .i64 (actD D a).arm) (.int .i64 (actD D a).deeds) = w9
        intro hK hnx HH8 H79 H69
        refine hK.out _ _ hnx (fun hHeld' => ?_)
        clear hK K hHeld hnx
        have hHeld := hHeld'
        clear hHeld'
        (try simp only [Act.put, List.setIfInBounds_toArray, List.set_cons_zero, List.set_cons_succ])
        refine last1F (some 9) #[true, true, true, true, true, true, true, true, true, true, true, true, true] rfl rfl (by kernel_rfl) (fun K hK => ?_)
        go_simp
        refine hK.out _ _ ?_
        clear hK K hHeld
        (try simp only [Act.put, List.setIfInBounds_toArray, List.set_cons_zero, List.set_cons_succ])
        refine wpAnyF_done (by kernel_rfl) ?_ _
        obtain ⟨hoA, hlA⟩ := actD_ok hok HAC.out
        rw [HSN.out] at hlA
        have hQA : (actD D a).Q.length ≤ 1000 := by have := hoA.len; omega
        have HLA := Lib.hid hlA
        have HIS := Lib.hid (lis_any H79.out.disk H79.out.ref hQA (by rw [HLA.out]; omega))
        unfold rdV RetT at HIS
        have h8 := HH8.out
        have n0 : w9.cell? ⟨g8, 0, none⟩ = some (.slice A8 (actD D a).S.length c8) := cell_row h8 0; have n1 : w9.cell? ⟨g8, 1, none⟩ = some (.slice A9 (actD D a).Q.length c9) := cell_row h8 1; have n2 : w9.cell? ⟨g8, 2, none⟩ = some (.bool (actD D a).dead) := cell_row h8 2; have n3 : w9.cell? ⟨g8, 3, none⟩ = some (.int .i64 (actD D a).arm) := cell_row h8 3; have n4 : w9.cell? ⟨g8, 4, none⟩ = some (.int .i64 (actD D a).deeds) := cell_row h8 4
        clear h8 hlA
        go_wp2_with (first
          | (go_at_call 20; go_must (refine HIS.out.mono ?_; rintro e wI ⟨rfl, hbI⟩; clear n0 n1 n2 n3 n4; have h8 := old_heap HH8.out hbI; have h6 := old_heap H69.out hbI; have n0 : wI.cell? ⟨g8, 0, none⟩ = some (.slice A8 (actD D a).S.length c8) := cell_row h8 0; have n1 : wI.cell? ⟨g8, 1, none⟩ = some (.slice A9 (actD D a).Q.length c9) := cell_row h8 1; have n2 : wI.cell? ⟨g8, 2, none⟩ = some (.bool (actD D a).dead) := cell_row h8 2; have n3 : wI.cell? ⟨g8, 3, none⟩ = some (.int .i64 (actD D a).arm) := cell_row h8 3; have n4 : wI.cell? ⟨g8, 4, none⟩ = some (.int .i64 (actD D a).deeds) := cell_row h8 4; have k0 : wI.cell? ⟨p6, 0, none⟩ = some (.slice AS D.S.length cS) := cell_row h6 0; have k1 : wI.cell? ⟨p6, 1, none⟩ = some (.slice AQ D.Q.length cQ) := cell_row h6 1; have k2 : wI.cell? ⟨p6, 2, none⟩ = some (.bool D.dead) := cell_row h6 2; have k3 : wI.cell? ⟨p6, 3, none⟩ = some (.int .i64 D.arm) := cell_row h6 3; have k4 : wI.cell? ⟨p6, 4, none⟩ = some (.int .i64 D.deeds) := cell_row h6 4; have m0 := free_row h6 0; have m1 := free_row h6 1; have m2 := free_row h6 2; have m3 := free_row h6 3; have m4 := free_row h6 4; have H6I := Lib.hid h6; have HBI := Lib.hid hbI; clear h8 h6 hbI)))
        rw [← set5]
        exact ⟨⟨j + 1, by omega, by omega, by go_num, Lib.hid ⟨vq7, _, _, actD D a, H79.out.next HBI.out (old_heap H69.out HBI.out) (Nat.le_trans H79.out.below.size HBI.out.size) hoA HLA.out hp6w⟩⟩, by simp [intOf]; omega⟩
    · have hor : ∀ {G : Prop}, ((j : Int) < (L.length : Int) → ¬ (j : Int) < 40 → G) → (¬ (j : Int) < (L.length : Int) → G) → G := fun h1 h2 => by
        by_cases h : (j : Int) < (L.length : Int)
        · exact h1 h (by omega)
        · exact h2 h
      clear hs
      refine hor (fun hj1 hj2 => ?_) (fun hj1 => ?_)
      all_goals
        clear hor hgo
        go_wp2
        go_ret
        exact ⟨rfl, HS.out.below⟩
end Go.Proofs.Ytiehfaiadhhndaa
