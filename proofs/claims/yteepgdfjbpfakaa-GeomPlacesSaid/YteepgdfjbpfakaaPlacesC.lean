/-
  GeomPlaces: the walk of the law.
-/
import Derived.Test.YteepgdfjbpfakaaPlacesB
import Derived.WalkKit
import Derived.WalkSpells
import Derived.WalkLawsBesides
import Derived.Lib.Hide
import Derived.Deep.QuietTactic
import Derived.BigQuiet
import Derived.Test.YteepgdfjbpfakaaReg
namespace Go.Proofs.Yteepgdfjbpfakaa
open Go.RowKit Go.Proofs.YteepgdfjbpfakaaW.PrintWords
attribute [local go_sem] maxI_two minI_two
set_option linter.unusedVariables false
set_option linter.unusedSimpArgs false
def AtG (b : Nat) (s g i : Nat) (w : World) : Prop := w.cell? ⟨b, 0, none⟩ = some (.int .i64 (s : Int)) ∧ w.cell? ⟨b, 1, none⟩ = some (.int .i64 (g : Int)) ∧ w.cell? ⟨b, 2, none⟩ = some (.int .i64 (i : Int))
theorem AtG.below {b s g i : Nat} {w w' : World} (h : AtG b s g i w) (hb : Below w.heap.size w w') : AtG b s g i w' :=
  ⟨(hb.cell (World.block_lt_of_cell? w _ h.1)).trans h.1, (hb.cell (World.block_lt_of_cell? w _ h.2.1)).trans h.2.1, (hb.cell (World.block_lt_of_cell? w _ h.2.2)).trans h.2.2⟩
def AtGG (p q s g i : Nat) (w : World) : Prop := AtG p s g i w ∧ AtG q s g i w
theorem AtGG.below {p q s g i : Nat} {w w' : World} (h : AtGG p q s g i w) (hb : Below w.heap.size w w') : AtGG p q s g i w' := ⟨h.1.below hb, h.2.below hb⟩
theorem AtGG.drew {p q s g i : Nat} {w : World} (h : AtGG p q s g i w) : AtGG p q s g i w.drew := h
def AtP (b : Nat) (x : GP.S40) (w : World) : Prop := w.cell? ⟨b, 0, none⟩ = some (.int .i64 x.f0) ∧ w.cell? ⟨b, 1, none⟩ = some (.int .i64 x.f1) ∧ w.cell? ⟨b, 2, none⟩ = some (.int .i64 x.f2) ∧ w.cell? ⟨b, 3, none⟩ = some (.int .i64 x.f3) ∧ w.cell? ⟨b, 4, none⟩ = some (.int .i64 x.f4) ∧ w.cell? ⟨b, 5, none⟩ = some (.int .i64 x.f5)
theorem AtP.below {b : Nat} {x : GP.S40} {w w' : World} (h : AtP b x w) (hb : Below w.heap.size w w') : AtP b x w' := by
  obtain ⟨h0, h1, h2, h3, h4, h5⟩ := h
  have k : ∀ {i : Nat} {v : Value}, w.cell? ⟨b, i, none⟩ = some v → w'.cell? ⟨b, i, none⟩ = some v := fun h => by rw [hb.cell (World.block_lt_of_cell? w _ h)]; exact h
  exact ⟨k h0, k h1, k h2, k h3, k h4, k h5⟩
def MayP (s g i : Int) (mb : Bool) : Prop := mb = true → ∃ s' g' i' : Nat, s = s' ∧ g = g' ∧ i = i' ∧ GP.Bd s' g' i'
set_option maxHeartbeats 8000000 in
set_option maxRecDepth 100000 in
theorem geomPlaces_walk (zs zg zi at_ : Int) (w : World) (ha : -9223372036854775808 ≤ at_ ∧ at_ ≤ 9223372036854775807) :
    Calls Try.prog 5 #[.agg #[.int .i64 zs, .int .i64 zg, .int .i64 zi], .int .i64 at_] w (RetT w true) := by
  obtain ⟨k, mb, hmf, hmb⟩ := GP.may_is zs zg zi
  have HAW := fun w' => Lib.hid (GP.l4awake.calls true w' GP.awake_is)
  have HMC := fun w' => Lib.hid (GP.r4May.calls k zs zg zi mb w' hmf)
  have HMB : Hid (MayP zs zg zi mb) := Lib.hid hmb
  have HA := Lib.hid ha
  have c0 := cell_row (heap_alloc_new w (.cells #[.int .i64 zs, .int .i64 zg, .int .i64 zi] 23 (0, 0))) 0
  have c1 := cell_row (heap_alloc_new w (.cells #[.int .i64 zs, .int .i64 zg, .int .i64 zi] 23 (0, 0))) 1
  have c2 := cell_row (heap_alloc_new w (.cells #[.int .i64 zs, .int .i64 zg, .int .i64 zi] 23 (0, 0))) 2
  have HB0 := Lib.hid ((Below.refl w.heap.size w).alloc (Nat.le_refl _) (.cells #[.int .i64 zs, .int .i64 zg, .int .i64 zi] 23 (0, 0)))
  have HC := Lib.hid (And.intro c0 (And.intro c1 c2))
  clear hmf hmb ha c0 c1 c2
  go_enter Try.func5, Try.ntmps5
  go_upto_region 3 with (first
    | (go_at_call 7; go_must (refine (HAW _).out.mono ?_; rintro e w1 ⟨rfl, hb1⟩; have HB1 := Lib.hid (bnext HB0.out hb1); have kc := bcell hb1; have HK := Lib.hid kc; clear kc hb1)))
  have HA1 : Hid (w1.cell? ⟨w.heap.size, 0, none⟩ = some (.int .i64 zs) ∧ w1.cell? ⟨w.heap.size, 1, none⟩ = some (.int .i64 zg) ∧ w1.cell? ⟨w.heap.size, 2, none⟩ = some (.int .i64 zi)) := by
    have k := HK.out.1
    have hlt : w.heap.size < (w.alloc (.cells #[.int .i64 zs, .int .i64 zg, .int .i64 zi] 23 (0, 0))).heap.size := by simp
    exact ⟨(k _ _ hlt).trans HC.out.1, (k _ _ hlt).trans HC.out.2.1, (k _ _ hlt).trans HC.out.2.2⟩
  obtain ⟨c0, c1, c2⟩ := HA1.out
  clear HK HC HB0 HAW HA1
  cases mb with
  | false =>
    go_wp2_with (first
      | (go_at_call 10; go_must (refine (HMC _).out.mono ?_; rintro e w2 ⟨rfl, hb2⟩; have HB2 := Lib.hid (bnext HB1.out hb2); clear hb2)))
    go_ret
    exact ⟨rfl, HB2.out⟩
  | true =>
    obtain ⟨s, g, i, rfl, rfl, rfl, hbd⟩ := HMB.out rfl
    have HBD := Lib.hid hbd
    clear HMB hbd
    have hmul : (s : Int) * (g : Int) = ((s * g : Nat) : Int) := by simp
    have hsg := GP.sg_le HBD.out
    have hw : wrap64 ((s : Int) * (g : Int)) = ((s * g : Nat) : Int) := by rw [hmul]; exact GP.w64 (by omega) (by omega)
    generalize hm : s * g = m at hw hsg
    have HM := Lib.hid hm
    clear hm hmul
    by_cases h12 : 1200 < m
    · go_wp2_with (first
        | (go_at_call 10; go_must (refine (HMC _).out.mono ?_; rintro e w2 ⟨rfl, hb2⟩; have HB2 := Lib.hid (bnext HB1.out hb2); obtain ⟨c0, c1, c2⟩ := AtG.below (w' := w2) ⟨c0, c1, c2⟩ hb2; clear hb2)))
      go_ret
      exact ⟨rfl, HB2.out⟩
    · have HSM : Hid (s * g ≤ 1200) := by unfold Hid; rw [HM.out]; omega
      have hBD := HBD.out
      obtain ⟨kp, hkp⟩ := GP.parts_are hBD
      have HPC := fun w' => Lib.hid (GP.r4Parts.calls kp s g i _ w' hkp)
      have HOW := fun w' => Lib.hid (GP.l4Own.calls s g i s g i w' rfl)
      have hN := GP.NN_le hBD HSM.out
      generalize hNN : GP.NN s g i = N at hN
      have HSE := fun w' => Lib.hid (GP.g_Sectors.calls s g i N w' (by rw [← hNN]; exact GP.gsectors hBD))
      have hlen : ((GP.pL s g i (GP.NN s g i)).length : Int) = (N : Int) := by rw [GP.pL_len, hNN]
      have HNN := Lib.hid hNN
      clear hkp hBD hNN
      go_upto_region 5 with (first
        | (go_at_call 10; go_must (refine (HMC _).out.mono ?_; rintro e w2 ⟨rfl, hb2⟩; have HB2 := Lib.hid (bnext HB1.out hb2); obtain ⟨c0, c1, c2⟩ := AtG.below (w' := w2) ⟨c0, c1, c2⟩ hb2; clear hb2)))
      have HE2 : Hid (AtG w.heap.size s g i w2) := ⟨c0, c1, c2⟩
      go_upto_region 6 with (first
        | (go_at_call 8; go_must (refine (HOW w2).out.mono ?_; rintro e w3 ⟨rfl, hb3⟩; have HB3 := Lib.hid (bnext HB2.out hb3); have hE3 := AtG.below HE2.out hb3; have HE3 := Lib.hid hE3; clear hb3 hE3)))
      have hP := heap_alloc_new w3 (.cells #[.int .i64 (s : Int), .int .i64 (g : Int), .int .i64 (i : Int)] 25 (0, 0))
      have hB := HB3.out.alloc HB3.out.size (.cells #[.int .i64 (s : Int), .int .i64 (g : Int), .int .i64 (i : Int)] 25 (0, 0))
      have hG := AtG.below HE3.out ((Below.refl w3.heap.size w3).alloc (Nat.le_refl _) (.cells #[.int .i64 (s : Int), .int .i64 (g : Int), .int .i64 (i : Int)] 25 (0, 0)))
      revert hP hB hG
      generalize w3.alloc (.cells #[.int .i64 (s : Int), .int .i64 (g : Int), .int .i64 (i : Int)] 25 (0, 0)) = w4
      generalize w3.heap.size = p5
      intro hP hB hG
      have HA4 : Hid (AtGG w.heap.size p5 s g i w4) := ⟨hG, cell_row hP 0, cell_row hP 1, cell_row hP 2⟩
      have HB4 := Lib.hid hB
      clear hP hB hG HB1 HB2 HB3 HE2 HE3 HMC HOW c0 c1 c2
      obtain ⟨⟨c0, c1, c2⟩, d0, d1, d2⟩ := HA4.out
      go_upto_region 7 with (first
        | (go_at_call 22; go_must (refine (HPC w4).out.mono ?_; rintro e w5 ⟨vp, rfl, hR5, hb5⟩; have HB5 := Lib.hid (bnext HB4.out hb5); have hA5 := AtGG.below HA4.out hb5; have HA5 := Lib.hid hA5; have HR5 := Lib.hid hR5; clear hb5 hA5 hR5)))
      clear c0 c1 c2 d0 d1 d2
      obtain ⟨A, cp, rfl, hlc, hC⟩ := Kd.R_reads HR5.out
      rw [GP.pL_len, HNN.out] at hC hlc
      have HC5 := Lib.hid hC
      clear hC HR5 HA4 HB4 HPC
      obtain ⟨⟨c0, c1, c2⟩, d0, d1, d2⟩ := HA5.out
      rw [show (GP.pL s g i (GP.NN s g i)).length = N by rw [GP.pL_len, HNN.out]]
      have hBD := HBD.out
      have HR1 := fun w' => Lib.hid (GP.g_Region.calls s g i 2 (-1) w' (GP.region_no hBD 2 (by omega)))
      have HR2 := fun w' => Lib.hid (GP.g_Region.calls s g i (-1) (-1) w' (GP.region_no hBD (-1) (by omega)))
      have HS1 := fun w' => Lib.hid (GP.g_Summary.calls s g i s 0 (-1) w' (GP.sum_no hBD s 0 (by omega)))
      have HS2 := fun w' => Lib.hid (GP.g_Summary.calls s g i 0 g (-1) w' (GP.sum_no hBD 0 g (by omega)))
      have HK1 := fun w' => Lib.hid (GP.g_Block.calls s g i 0 0 8 (-1) w' (GP.blk_no1 hBD))
      have HK2 := fun w' => Lib.hid (GP.g_Block.calls s g i (-1) 0 0 (-1) w' (GP.blk_no2 hBD))
      clear hBD
      go_upto_region 9 with (first
        | (go_at_call 23; go_must (refine (HSE _).out.mono ?_; rintro e w6 ⟨rfl, hb⟩; clear c0 c1 c2 d0 d1 d2; replace HB5 := Lib.hid (bnext HB5.out hb); replace HC5 := Lib.hid (Kd.C_below HC5.out hb); replace HA5 := Lib.hid (AtGG.below HA5.out hb); clear hb; obtain ⟨⟨c0, c1, c2⟩, d0, d1, d2⟩ := HA5.out))
        | (go_at_call 24; (with_reducible refine (HR1 _).out.mono ?_); rintro e w7 ⟨rfl, hb⟩; clear c0 c1 c2 d0 d1 d2; replace HB5 := Lib.hid (bnext HB5.out hb); replace HC5 := Lib.hid (Kd.C_below HC5.out hb); replace HA5 := Lib.hid (AtGG.below HA5.out hb); clear hb; obtain ⟨⟨c0, c1, c2⟩, d0, d1, d2⟩ := HA5.out)
        | (go_at_call 24; (with_reducible refine (HR2 _).out.mono ?_); rintro e w8 ⟨rfl, hb⟩; clear c0 c1 c2 d0 d1 d2; replace HB5 := Lib.hid (bnext HB5.out hb); replace HC5 := Lib.hid (Kd.C_below HC5.out hb); replace HA5 := Lib.hid (AtGG.below HA5.out hb); clear hb; obtain ⟨⟨c0, c1, c2⟩, d0, d1, d2⟩ := HA5.out)
        | (go_at_call 25; (with_reducible refine (HS1 _).out.mono ?_); rintro e w9 ⟨rfl, hb⟩; clear c0 c1 c2 d0 d1 d2; replace HB5 := Lib.hid (bnext HB5.out hb); replace HC5 := Lib.hid (Kd.C_below HC5.out hb); replace HA5 := Lib.hid (AtGG.below HA5.out hb); clear hb; obtain ⟨⟨c0, c1, c2⟩, d0, d1, d2⟩ := HA5.out)
        | (go_at_call 25; (with_reducible refine (HS2 _).out.mono ?_); rintro e w10 ⟨rfl, hb⟩; clear c0 c1 c2 d0 d1 d2; replace HB5 := Lib.hid (bnext HB5.out hb); replace HC5 := Lib.hid (Kd.C_below HC5.out hb); replace HA5 := Lib.hid (AtGG.below HA5.out hb); clear hb; obtain ⟨⟨c0, c1, c2⟩, d0, d1, d2⟩ := HA5.out)
        | (go_at_call 26; (with_reducible refine (HK1 _).out.mono ?_); rintro e w11 ⟨rfl, hb⟩; clear c0 c1 c2 d0 d1 d2; replace HB5 := Lib.hid (bnext HB5.out hb); replace HC5 := Lib.hid (Kd.C_below HC5.out hb); replace HA5 := Lib.hid (AtGG.below HA5.out hb); clear hb; obtain ⟨⟨c0, c1, c2⟩, d0, d1, d2⟩ := HA5.out)
        | (go_at_call 26; (with_reducible refine (HK2 _).out.mono ?_); rintro e w12 ⟨rfl, hb⟩; clear c0 c1 c2 d0 d1 d2; replace HB5 := Lib.hid (bnext HB5.out hb); replace HC5 := Lib.hid (Kd.C_below HC5.out hb); replace HA5 := Lib.hid (AtGG.below HA5.out hb); clear hb; obtain ⟨⟨c0, c1, c2⟩, d0, d1, d2⟩ := HA5.out))
      go_wp2
      go_loopw [79] (fun iv wr => ∃ n : Nat, n ≤ N ∧ iv = .int .i64 (n : Int) ∧ Hid (AtGG w.heap.size p5 s g i wr) ∧ Hid (Kd.C GP.k40 wr A N (GP.pL s g i N)) ∧ Hid (Below w.heap.size w wr)) (fun iv _ => (N - intOf iv).toNat)
      case atStart => exact ⟨0, by omega, by rfl, HA5, HC5, HB5⟩
      case round =>
        clear c0 c1 c2 d0 d1 d2 HA5 HC5 HB5 HSE HR1 HR2 HS1 HS2 HK1 HK2
        obtain ⟨n, hnN, rfl, HA, HC, HB⟩ := hrel
        obtain ⟨⟨c0, c1, c2⟩, d0, d1, d2⟩ := HA.out
        by_cases hn : n < N
        · have hN0 : 0 < N := by omega
          obtain ⟨b, o, rfl, hcell⟩ := GP.pl_cells HC.out hN0
          obtain ⟨x, hx⟩ : ∃ x, x = GP.pAt s g i n := ⟨_, rfl⟩
          have hq := hcell n hn
          rw [← hx] at hq
          obtain ⟨q0, q1, q2, q3, q4, q5⟩ := hq
          have HXE := Lib.hid hx
          clear hx hcell
          go_upto_region 12 with fail
          have hX : AtP wr.heap.size x (wr.alloc (.cells #[.int .i64 x.f0, .int .i64 x.f1, .int .i64 x.f2, .int .i64 x.f3, .int .i64 x.f4, .int .i64 x.f5] 40 (0, 0))) :=
            have h := heap_alloc_new wr (.cells #[.int .i64 x.f0, .int .i64 x.f1, .int .i64 x.f2, .int .i64 x.f3, .int .i64 x.f4, .int .i64 x.f5] 40 (0, 0))
            ⟨cell_row h 0, cell_row h 1, cell_row h 2, cell_row h 3, cell_row h 4, cell_row h 5⟩
          have hb := (Below.refl wr.heap.size wr).alloc (Nat.le_refl _) (.cells #[.int .i64 x.f0, .int .i64 x.f1, .int .i64 x.f2, .int .i64 x.f3, .int .i64 x.f4, .int .i64 x.f5] 40 (0, 0))
          clear c0 c1 c2 d0 d1 d2 q0 q1 q2 q3 q4 q5
          replace HB := Lib.hid (bnext HB.out hb)
          replace HC := Lib.hid (Kd.C_below HC.out hb)
          replace HA := Lib.hid (AtGG.below HA.out hb)
          have HX := Lib.hid hX
          clear hb hX
          revert HB HC HA HX
          generalize wr.alloc (.cells #[.int .i64 x.f0, .int .i64 x.f1, .int .i64 x.f2, .int .i64 x.f3, .int .i64 x.f4, .int .i64 x.f5] 40 (0, 0)) = w5
          generalize wr.heap.size = p8
          intro HB HC HA HX
          obtain ⟨⟨c0, c1, c2⟩, d0, d1, d2⟩ := HA.out
          obtain ⟨q0, q1, q2, q3, q4, q5⟩ := HX.out
          rcases GP.sector_cases HBD.out n (by rw [HNN.out]; exact hn) with h0 | ⟨r, j, hr, hj, hnE⟩ | ⟨a, b', hsa, hgb, hab, hnE⟩ | ⟨a, b', j, hsa, hgb, hj, hab, hnE⟩
          · subst h0
            have hxe : x = ⟨0, 0, 0, 0, 0, 0⟩ := HXE.out
            subst hxe
            have HW := fun w' => Lib.hid (GP.g_Where.calls s g i 0 0 0 0 false w' (GP.where_no HBD.out 0 (.inl (by unfold GP.FN; omega))))
            dsimp only at q0 q1 q2 q3 q4 q5
            go_wp2_with (first
              | (go_at_call 27; go_must ((with_reducible refine (HW _).out.mono ?_); rintro e w6 ⟨rfl, hb⟩; clear c0 c1 c2 d0 d1 d2 q0 q1 q2 q3 q4 q5; replace HB := Lib.hid (bnext HB.out hb); replace HC := Lib.hid (Kd.C_below HC.out hb); replace HX := Lib.hid (AtP.below HX.out hb); replace HA := Lib.hid (AtGG.below HA.out hb); clear hb; obtain ⟨⟨c0, c1, c2⟩, d0, d1, d2⟩ := HA.out; obtain ⟨q0, q1, q2, q3, q4, q5⟩ := HX.out)))
            refine ⟨⟨1, by omega, by rfl, HA, HC, HB⟩, by simp [intOf]; omega⟩
          · have hxe : x = ⟨1, (r : Int), (j : Int), 0, 0, 0⟩ := by rw [HXE.out, hnE]; exact GP.pAt_reg HBD.out r j hr hj
            subst hxe
            have hlt : n < GP.FN s i := by
              have hrj : r * (1 + GP.chN i + GP.tbN s) ≤ 1 * (1 + GP.chN i + GP.tbN s) := Nat.mul_le_mul_right _ (by omega)
              unfold GP.FN; omega
            have HW := fun w' => Lib.hid (GP.g_Where.calls s g i (n : Int) 0 0 0 false w' (GP.where_no HBD.out _ (.inl (by omega))))
            have HR := fun w' => Lib.hid (GP.g_Region.calls s g i (r : Int) _ w' (GP.region_is HBD.out r hr))
            have hww : IntKind.i64.wrap (((1 + r * (1 + GP.chN i + GP.tbN s) : Nat) : Int) + (j : Int)) = (n : Int) := by
              rw [Go.Proofs.Yteepgdfjbpfakaa.i64_w, hnE]
              have hF := GP.FN_le HBD.out
              have : ((1 + r * (1 + GP.chN i + GP.tbN s) : Nat) : Int) + (j : Int) = ((1 + r * (1 + GP.chN i + GP.tbN s) + j : Nat) : Int) := by simp
              rw [this, GP.w64 (by omega) (by omega)]
            generalize ((1 + r * (1 + GP.chN i + GP.tbN s) : Nat) : Int) = z at HR hww
            have HE := Lib.hid hnE
            have HLT := Lib.hid hlt
            clear hnE hlt
            dsimp only at q0 q1 q2 q3 q4 q5
            go_upto_region 17 with (first
              | (go_at_call 27; go_must ((with_reducible refine (HW _).out.mono ?_); rintro e w6 ⟨rfl, hb⟩; clear c0 c1 c2 d0 d1 d2 q0 q1 q2 q3 q4 q5; replace HB := Lib.hid (bnext HB.out hb); replace HC := Lib.hid (Kd.C_below HC.out hb); replace HX := Lib.hid (AtP.below HX.out hb); replace HA := Lib.hid (AtGG.below HA.out hb); clear hb; obtain ⟨⟨c0, c1, c2⟩, d0, d1, d2⟩ := HA.out; obtain ⟨q0, q1, q2, q3, q4, q5⟩ := HX.out)))
            have hS : (fun w' => AtGG w.heap.size p5 s g i w' ∧ AtP p8 ⟨1, (r : Int), (j : Int), 0, 0, 0⟩ w') w6.drew := ⟨HA.out, HX.out⟩
            refine wp_region_held_drew (S := (fun w' => AtGG w.heap.size p5 s g i w' ∧ AtP p8 ⟨1, (r : Int), (j : Int), 0, 0, 0⟩ w')) (by kernel_rfl) (by exact hS) (fun hHeld => ?_)
            refine take1_ (i := 0) (v := ?_) (a' := ?_) (some 128) #[true, false, false, false, false, false, false, false, false] rfl rfl (by kernel_rfl) (fun _ _ _ h => h) (Or.inl ⟨by rfl, ?_⟩) hHeld ?_ ?_
            rotate_left
            · (intro w hSw; (try dsimp only at hSw); obtain ⟨⟨⟨a0, a1, a2⟩, b0, b1, b2⟩, e0, e1, e2, e3, e4, e5⟩ := hSw; go_simp; (try with_reducible rfl))
            rotate_left
            · simp only [Act.put, List.setIfInBounds_toArray, List.set_cons_zero, List.set_cons_succ]
              rfl
            refine take1_ (i := 1) (v := ?_) (a' := ?_) (some 129) #[true, true, false, false, false, false, false, false, false] rfl rfl (by kernel_rfl) (fun _ _ _ h => h) (Or.inl ⟨by rfl, ?_⟩) hHeld ?_ ?_
            rotate_left
            · (intro w hSw; (try dsimp only at hSw); obtain ⟨⟨⟨a0, a1, a2⟩, b0, b1, b2⟩, e0, e1, e2, e3, e4, e5⟩ := hSw; go_simp; (try with_reducible rfl))
            rotate_left
            · simp only [Act.put, List.setIfInBounds_toArray, List.set_cons_zero, List.set_cons_succ]
              rfl
            refine take1_ (i := 2) (v := ?_) (a' := ?_) (some 130) #[true, true, true, false, false, false, false, false, false] rfl rfl (by kernel_rfl) (fun _ _ _ h => h) (Or.inl ⟨by rfl, ?_⟩) hHeld ?_ ?_
            rotate_left
            · (intro w hSw; (try dsimp only at hSw); obtain ⟨⟨⟨a0, a1, a2⟩, b0, b1, b2⟩, e0, e1, e2, e3, e4, e5⟩ := hSw; go_simp; (try with_reducible rfl))
            rotate_left
            · simp only [Act.put, List.setIfInBounds_toArray, List.set_cons_zero, List.set_cons_succ]
              rfl
            refine take1_ (i := 4) (v := ?_) (a' := ?_) (some 132) #[true, true, true, false, true, false, false, false, false] rfl rfl (by kernel_rfl) (fun _ _ _ h => h) (Or.inl ⟨by rfl, ?_⟩) hHeld ?_ ?_
            rotate_left
            · (intro w hSw; (try dsimp only at hSw); obtain ⟨⟨⟨a0, a1, a2⟩, b0, b1, b2⟩, e0, e1, e2, e3, e4, e5⟩ := hSw; go_simp; (try with_reducible rfl))
            rotate_left
            · simp only [Act.put, List.setIfInBounds_toArray, List.set_cons_zero, List.set_cons_succ]
              rfl
            refine take1_ (i := 5) (v := ?_) (a' := ?_) (some 133) #[true, true, true, false, true, true, false, false, false] rfl rfl (by kernel_rfl) (fun _ _ _ h => h) (Or.inl ⟨by rfl, ?_⟩) hHeld ?_ ?_
            rotate_left
            · (intro w hSw; (try dsimp only at hSw); obtain ⟨⟨⟨a0, a1, a2⟩, b0, b1, b2⟩, e0, e1, e2, e3, e4, e5⟩ := hSw; go_simp; (try with_reducible rfl))
            rotate_left
            · simp only [Act.put, List.setIfInBounds_toArray, List.set_cons_zero, List.set_cons_succ]
              rfl
            refine take1_ (i := 7) (v := ?_) (a' := ?_) (some 135) #[true, true, true, false, true, true, false, true, false] rfl rfl (by kernel_rfl) (fun _ _ _ h => h) (Or.inl ⟨by rfl, ?_⟩) hHeld ?_ ?_
            rotate_left
            · (intro w hSw; (try dsimp only at hSw); obtain ⟨⟨⟨a0, a1, a2⟩, b0, b1, b2⟩, e0, e1, e2, e3, e4, e5⟩ := hSw; go_simp; (try with_reducible rfl))
            rotate_left
            · simp only [Act.put, List.setIfInBounds_toArray, List.set_cons_zero, List.set_cons_succ]
              rfl
            refine loud1_ (i := 3) (some 131) #[true, true, true, true, true, true, false, true, false] rfl rfl (by kernel_rfl) (fun K hK => ?_)
            go_simp
            (go_at_call 24; (refine (HR _).out.mono ?_); rintro e x1 ⟨rfl, k1⟩; have hS17 : (fun w' => AtGG w.heap.size p5 s g i w' ∧ AtP p8 ⟨1, (r : Int), (j : Int), 0, 0, 0⟩ w') x1 := ⟨AtGG.below (w := w6.drew) HA.out k1, AtP.below (w := w6.drew) HX.out k1⟩)
            refine hK.out _ _ (by exact hS17) (fun hHeld' => ?_)
            clear hK K hHeld
            have hHeld := hHeld'
            clear hHeld'
            try simp only [Act.put, List.setIfInBounds_toArray, List.set_cons_zero, List.set_cons_succ]
            refine take1_ (i := 6) (v := ?_) (a' := ?_) (some 134) #[true, true, true, true, true, true, true, true, false] rfl rfl (by kernel_rfl) (fun _ _ _ h => h) (Or.inl ⟨by rfl, ?_⟩) hHeld ?_ ?_
            rotate_left
            · (intro w hSw; (try dsimp only at hSw); obtain ⟨⟨⟨a0, a1, a2⟩, b0, b1, b2⟩, e0, e1, e2, e3, e4, e5⟩ := hSw; go_simp; (try with_reducible rfl))
            rotate_left
            · simp only [Act.put, List.setIfInBounds_toArray, List.set_cons_zero, List.set_cons_succ]
              rfl
            refine take1_ (i := 8) (v := ?_) (a' := ?_) (some 136) #[true, true, true, true, true, true, true, true, true] rfl rfl (by kernel_rfl) (fun _ _ _ h => h) (Or.inl ⟨by rfl, ?_⟩) hHeld ?_ ?_
            rotate_left
            · (intro w hSw; (try dsimp only at hSw); obtain ⟨⟨⟨a0, a1, a2⟩, b0, b1, b2⟩, e0, e1, e2, e3, e4, e5⟩ := hSw; go_simp; (try with_reducible rfl))
            rotate_left
            · simp only [Act.put, List.setIfInBounds_toArray, List.set_cons_zero, List.set_cons_succ]
              rfl
            refine wpAnyH_done (by kernel_rfl) ?_ _
            replace HB := Lib.hid (bnext HB.out.drew k1)
            replace HC := Lib.hid (Kd.C_below (w := w6.drew) HC.out k1)
            replace HA := Lib.hid hS17.1
            go_wp2
            refine ⟨⟨n + 1, by omega, by go_num, HA, HC, HB⟩, by simp [intOf]; omega⟩
          · have hxe : x = ⟨2, 0, 0, (a : Int), (b' : Int), 0⟩ := by rw [HXE.out, hnE]; exact GP.pAt_sum HBD.out a b' hgb
            subst hxe
            have HW := fun w' => Lib.hid (GP.g_Where.calls s g i (n : Int) 0 0 0 false w' (by
              have := GP.where_sum HBD.out (a * g + b') hab
              rw [← hnE] at this; exact this))
            have HS := fun w' => Lib.hid (GP.g_Summary.calls s g i (a : Int) (b' : Int) (n : Int) w' (by
              have := GP.sum_is HBD.out a b' hsa hgb hab
              rw [← hnE] at this; exact this))
            have HE := Lib.hid hnE
            clear hnE
            dsimp only at q0 q1 q2 q3 q4 q5
            go_wp2_with (first
              | (go_at_call 27; go_must ((with_reducible refine (HW _).out.mono ?_); rintro e w6 ⟨rfl, hb⟩; clear c0 c1 c2 d0 d1 d2 q0 q1 q2 q3 q4 q5; replace HB := Lib.hid (bnext HB.out hb); replace HC := Lib.hid (Kd.C_below HC.out hb); replace HX := Lib.hid (AtP.below HX.out hb); replace HA := Lib.hid (AtGG.below HA.out hb); clear hb; obtain ⟨⟨c0, c1, c2⟩, d0, d1, d2⟩ := HA.out; obtain ⟨q0, q1, q2, q3, q4, q5⟩ := HX.out))
              | (go_at_call 25; go_must ((with_reducible refine (HS _).out.mono ?_); rintro e w7 ⟨rfl, hb⟩; clear c0 c1 c2 d0 d1 d2 q0 q1 q2 q3 q4 q5; replace HB := Lib.hid (bnext HB.out hb); replace HC := Lib.hid (Kd.C_below HC.out hb); replace HX := Lib.hid (AtP.below HX.out hb); replace HA := Lib.hid (AtGG.below HA.out hb); clear hb; obtain ⟨⟨c0, c1, c2⟩, d0, d1, d2⟩ := HA.out; obtain ⟨q0, q1, q2, q3, q4, q5⟩ := HX.out)))
            all_goals refine ⟨⟨n + 1, by omega, by go_num, HA, HC, HB⟩, by simp [intOf]; omega⟩
          · have hxe : x = ⟨3, 0, 0, (a : Int), (b' : Int), (j : Int)⟩ := by rw [HXE.out, hnE]; exact GP.pAt_blk HBD.out a b' j hgb hj
            subst hxe
            have HW := fun w' => Lib.hid (GP.g_Where.calls s g i (n : Int) (a : Int) (b' : Int) (j : Int) true w' (by
              have := GP.where_blk HBD.out a b' j hsa hgb hj hab
              rw [← hnE] at this; exact this))
            have HK := fun w' => Lib.hid (GP.g_Block.calls s g i (a : Int) (b' : Int) (j : Int) (n : Int) w' (by
              have := GP.blk_is HBD.out a b' j hsa hgb hj hab
              rw [← hnE] at this; exact this))
            have HQ := fun w' => Lib.hid (GP.r4Block.calls 30 s g i (a : Int) (b' : Int) (j : Int) (n : Int) w' (by
              have := GP.rblk_is HBD.out 30 (by omega) a b' j hsa hgb hj hab
              rw [← hnE] at this; exact this))
            have HE := Lib.hid hnE
            clear hnE
            dsimp only at q0 q1 q2 q3 q4 q5
            go_wp2_with (first
              | (go_at_call 27; go_must ((with_reducible refine (HW _).out.mono ?_); rintro e w6 ⟨rfl, hb⟩; clear c0 c1 c2 d0 d1 d2 q0 q1 q2 q3 q4 q5; replace HB := Lib.hid (bnext HB.out hb); replace HC := Lib.hid (Kd.C_below HC.out hb); replace HX := Lib.hid (AtP.below HX.out hb); replace HA := Lib.hid (AtGG.below HA.out hb); clear hb; obtain ⟨⟨c0, c1, c2⟩, d0, d1, d2⟩ := HA.out; obtain ⟨q0, q1, q2, q3, q4, q5⟩ := HX.out))
              | (go_at_call 26; go_must ((with_reducible refine (HK _).out.mono ?_); rintro e w7 ⟨rfl, hb⟩; clear c0 c1 c2 d0 d1 d2 q0 q1 q2 q3 q4 q5; replace HB := Lib.hid (bnext HB.out hb); replace HC := Lib.hid (Kd.C_below HC.out hb); replace HX := Lib.hid (AtP.below HX.out hb); replace HA := Lib.hid (AtGG.below HA.out hb); clear hb; obtain ⟨⟨c0, c1, c2⟩, d0, d1, d2⟩ := HA.out; obtain ⟨q0, q1, q2, q3, q4, q5⟩ := HX.out))
              | (go_at_call 28; go_must ((with_reducible refine (HQ _).out.mono ?_); rintro e w8 ⟨rfl, hb⟩; clear c0 c1 c2 d0 d1 d2 q0 q1 q2 q3 q4 q5; replace HB := Lib.hid (bnext HB.out hb); replace HC := Lib.hid (Kd.C_below HC.out hb); replace HX := Lib.hid (AtP.below HX.out hb); replace HA := Lib.hid (AtGG.below HA.out hb); clear hb; obtain ⟨⟨c0, c1, c2⟩, d0, d1, d2⟩ := HA.out; obtain ⟨q0, q1, q2, q3, q4, q5⟩ := HX.out)))
            all_goals refine ⟨⟨n + 1, by omega, by go_num, HA, HC, HB⟩, by simp [intOf]; omega⟩
        · obtain rfl : n = N := by omega
          have HW1 := fun w' => Lib.hid (GP.g_Where.calls s g i (mnI at_ (-1)) 0 0 0 false w' (GP.where_no HBD.out _ (.inl (by unfold mnI; split <;> omega))))
          have HW2 := fun w' => Lib.hid (GP.g_Where.calls s g i (mxI at_ (n : Int)) 0 0 0 false w' (GP.where_no HBD.out _ (.inr (by rw [HNN.out]; unfold mxI; split <;> omega))))
          have hn65 : (n : Int) ≤ 65536 := by omega
          clear hn
          go_wp2_with (first
            | (go_at_call 27; (with_reducible refine (HW1 _).out.mono ?_); rintro e w6 ⟨rfl, hb⟩; clear c0 c1 c2 d0 d1 d2; replace HB := Lib.hid (bnext HB.out hb); replace HA := Lib.hid (AtGG.below HA.out hb); clear hb; obtain ⟨⟨c0, c1, c2⟩, d0, d1, d2⟩ := HA.out)
            | (go_at_call 27; (with_reducible refine (HW2 _).out.mono ?_); rintro e w7 ⟨rfl, hb⟩; clear c0 c1 c2 d0 d1 d2; replace HB := Lib.hid (bnext HB.out hb); replace HA := Lib.hid (AtGG.below HA.out hb); clear hb; obtain ⟨⟨c0, c1, c2⟩, d0, d1, d2⟩ := HA.out))
          go_ret
          exact ⟨rfl, HB.out⟩
end Go.Proofs.Yteepgdfjbpfakaa
