/-
  DiskSafe: the walk.
-/
import Derived.Test.YtiehfaiadhhndaaDsSb
namespace Go.Proofs.Ytiehfaiadhhndaa
open Go.RowKit
set_option linter.unusedVariables false
set_option linter.unusedSimpArgs false
set_option linter.unnecessarySimpa false
theorem flush_facts {D : Dk} {k : Nat} (h : Calm D) (ho : DOk D k) : (flushD D).2 = 0 ∧ (flushD D).1.Q = [] ∧ Calm (flushD D).1 ∧ (flushD D).1.S.length = D.S.length ∧ 0 ≤ (flushD D).1.deeds ∧ (flushD D).1.deeds ≤ k + 1 := by
  obtain ⟨h1, h2⟩ := h
  have hd := ho.deeds
  unfold flushD
  rw [h1, h2]
  simp only [Bool.false_eq_true, if_false]
  rw [if_neg (by decide)]
  refine ⟨rfl, rfl, ?_, ?_, ?_, ?_⟩
  · unfold deedD Calm; rw [h2]; exact ⟨h1, rfl⟩
  · show (layS D.S D.Q).length = _
    rw [layS_len]
  · show 0 ≤ (deedD D).1.deeds
    unfold deedD; rw [h2]; show 0 ≤ D.deeds + 1; omega
  · show (deedD D).1.deeds ≤ _
    unfold deedD; rw [h2]; show D.deeds + 1 ≤ _; omega
set_option maxRecDepth 100000 in
set_option maxHeartbeats 16000000 in
theorem diskSafe_walk (A0 : Option Addr) (c0' : Nat) (L0 : List Ac) (arm : Int) (A' : Option Addr) (c' : Nat) (K : List Bool) (w : World) (hL0 : L0.length ≤ 9223372036854775807) (hv0 : ReadAt w A0 acV 4 L0) (hac0 : ∀ a ∈ L0, AcOk w a) (harm : -9223372036854775808 ≤ arm ∧ arm ≤ 9223372036854775807) (hKl : K.length ≤ 9223372036854775807) (hK : ReadAt w A' boF 1 K) :
    Calls Try.prog 6 #[.slice A0 L0.length c0', .int .i64 arm, .slice A' K.length c'] w (RetT w true) := by
  have HV0 := Lib.hid hv0
  have HACS0 := Lib.hid hac0
  have HKR := Lib.hid hK
  clear hv0 hac0 hK
  have HSZ := fun W => Lib.hid (lsized_any (fun _ => False) 9 W (by omega) (fun _ h => h.elim))
  have hz7 : szN 9 = 9 := by decide
  rw [hz7] at HSZ
  clear hz7
  unfold SizedTo rdV at HSZ
  go_enter Try.func6, Try.ntmps6
  go_upto_region 4 with (first
    | (go_at_call 8; go_must (refine (awake03 _).mono ?_; rintro e w1 ⟨rfl, hb1⟩; have HB1 := Lib.hid hb1; clear hb1))
    | (go_at_call 18; go_must (refine (HSZ _).out.mono ?_; rintro e w2 ⟨p, gS, vS2, rfl, hd2, hr2, hb2⟩; obtain ⟨A3, c3, rfl, _⟩ := hr2.secs; have HD2 := Lib.hid (hd2.low HB1.out.size); have HR2 := Lib.hid hr2; have HB2 := Lib.hid (bnext HB1.out hb2); clear hd2 hr2 hb2)))
  have hsz2 := HB2.out.size
  have hbA : Below w2.heap.size w2 (w2.alloc (.cells (dskB (dk0 9) (.slice A3 (dk0 9).S.length c3) (.slice none 0 0)) 43)) := (Below.refl _ w2).alloc (Nat.le_refl _) _
  have hst : PlSt w p gS w2.heap.size 9 0 (.slice none 0 0) (.slice A3 (dk0 9).S.length c3) (.slice none 0 0) (dk0 9) (w2.alloc (.cells (dskB (dk0 9) (.slice A3 (dk0 9).S.length c3) (.slice none 0 0)) 43)) := by
    have hl : (dk0 9).S.length = 9 := by simp [dk0]
    have hr := HR2.out
    refine ⟨HD2.out.below hbA, (hr.foot (fun b hb hf => by rcases hf with hf | hf; exact .inl hf; omega)).below hbA, ⟨by simp [dk0], by simp [dk0], by simp [dk0], by simp [dk0]⟩, hl, new_heap w2 _, bnext HB2.out hbA, fun e => by have := Ft.lt HD2.out _ e; omega⟩
  have hp6w : w.heap.size ≤ w2.heap.size := hsz2
  unfold dskB at hst
  clear hbA HD2 HR2 HB2 HSZ HB1 hsz2
  revert hst hp6w
  generalize w2.alloc (.cells #[.slice A3 (dk0 9).S.length c3, .slice none 0 0, .bool (dk0 9).dead, .int .i64 (dk0 9).arm, .int .i64 (dk0 9).deeds] 43) = w3
  generalize w2.heap.size = b8
  intro hst hp6w
  have HST := Lib.hid hst
  clear hst
  go_upto_block 0 with fail
  go_cut [] (fun wc => Hid (∃ vq vS vQ D k, k ≤ 20 ∧ PlSt w p gS b8 9 k vq vS vQ D wc ∧ Calm D))
  case first =>
   go_wp2
   go_loopw [9] (fun i wr => ∃ k : Nat, k ≤ L0.length ∧ k ≤ 20 ∧ i = .int .i64 (k : Int) ∧ Hid (∃ vq vS vQ D, PlSt w p gS b8 9 k vq vS vQ D wr ∧ Calm D)) (fun i _ => (20 - intOf i).toNat)
   case atStart => exact ⟨0, by omega, by omega, by rfl, Lib.hid ⟨_, _, _, _, HST.out, calm_dk0 9⟩⟩
   case round =>
    obtain ⟨j, hj, hj40, rfl, HJ⟩ := hrel
    obtain ⟨vq, vS, vQ, D, hs, hcm⟩ := HJ.out
    have HS := Lib.hid hs
    have HCM := Lib.hid hcm
    clear hcm
    by_cases hgo : j < L0.length ∧ j < 20
    · obtain ⟨hlt, h40⟩ := hgo
      have hlt' : (j : Int) < (L0.length : Int) := by omega
      have h40' : (j : Int) < 20 := by omega
      clear HST HJ
      by_cases hk3 : (L0[j]).kind = 3
      · obtain ⟨a, haj⟩ : ∃ a, L0[j]? = some a := ⟨_, List.getElem?_eq_getElem hlt⟩
        have hae : L0[j] = a := by rw [List.getElem?_eq_getElem hlt] at haj; exact Option.some.inj haj
        rw [hae] at hk3
        obtain ⟨ab, ao, rfl, hrow⟩ := HV0.out (fun e => by rw [e] at hlt; exact absurd hlt (Nat.not_lt_zero _))
        have c0 := hrow j a haj 0 (by decide)
        have hab : ab < w.heap.size := World.block_lt_of_cell? w _ c0
        have d0 : wr.cell? ⟨ab, ao + j * 4, none⟩ = some (.int .i64 3) := by
          have := (hs.below.cell (p := ⟨ab, ao + j * 4 + 0, none⟩) hab).trans c0
          rw [show acV a = [.int .i64 a.kind, .int .i64 a.at_, a.vS, .slice a.A a.K.length a.c] from rfl, hk3] at this
          simpa using this
        have HN := Lib.hid (⟨_, _, _, _, HS.out.up, HCM.out⟩ : ∃ vq vS vQ D, PlSt w p gS b8 9 (j + 1) vq vS vQ D wr ∧ Calm D)
        clear hrow haj hae c0 hs hk3 hab HS HCM
        go_wp2
        exact ⟨⟨j + 1, by omega, by omega, by go_num, HN⟩, by simp [intOf]; omega⟩
      · have hk3' : ∀ a, L0[j]? = some a → (a.kind == 3) = false := fun a haj => by
          have hae : L0[j] = a := by rw [List.getElem?_eq_getElem hlt] at haj; exact Option.some.inj haj
          rw [hae] at hk3
          simpa using hk3
        obtain ⟨a, haj⟩ : ∃ a, L0[j]? = some a := ⟨_, List.getElem?_eq_getElem hlt⟩
        obtain ⟨ab, ao, rfl, hrow⟩ := HV0.out (fun e => by rw [e] at hlt; exact absurd hlt (Nat.not_lt_zero _))
        have hk4 := hk3' a haj
        have HK3 := Lib.hid hk4
        clear hk3 hk3'
        have hk3 := hk4
        clear hk4
        have hac := HACS0.out a (List.mem_of_getElem? haj)
        have HAC := Lib.hid hac
        have c0 := hrow j a haj 0 (by decide)
        have c1 := hrow j a haj 1 (by decide)
        have c2' := hrow j a haj 2 (by decide)
        have c3 := hrow j a haj 3 (by decide)
        have hab : ab < w.heap.size := World.block_lt_of_cell? w _ c0
        have hbw := hs.below
        have HBw := Lib.hid hbw
        have d0 := (hbw.cell (p := ⟨ab, ao + j * 4 + 0, none⟩) hab).trans c0
        have d1 := (hbw.cell (p := ⟨ab, ao + j * 4 + 1, none⟩) hab).trans c1
        have d2 := (hbw.cell (p := ⟨ab, ao + j * 4 + 2, none⟩) hab).trans c2'
        have d3 := (hbw.cell (p := ⟨ab, ao + j * 4 + 3, none⟩) hab).trans c3
        obtain ⟨AS, cS, rfl, _⟩ := hs.ref.secs
        obtain ⟨AQ, cQ, rfl, _⟩ := hs.ref.que
        have hS7 : S4 ab (ao + j * 4) a wr := ⟨d0, d1, d2, d3⟩
        have hbx := hs.box
        have k0 : wr.cell? ⟨b8, 0, none⟩ = some (.slice AS D.S.length cS) := cell_row hbx 0; have k1 : wr.cell? ⟨b8, 1, none⟩ = some (.slice AQ D.Q.length cQ) := cell_row hbx 1; have k2 : wr.cell? ⟨b8, 2, none⟩ = some (.bool D.dead) := cell_row hbx 2; have k3 : wr.cell? ⟨b8, 3, none⟩ = some (.int .i64 D.arm) := cell_row hbx 3; have k4 : wr.cell? ⟨b8, 4, none⟩ = some (.int .i64 D.deeds) := cell_row hbx 4
        have HS7 := Lib.hid hS7
        have hge := Ft.ge hs.disk
        have hnb := hs.n6
        have hwb := hp6w
        have hm9 : j ≤ 900 := by omega
        have hS1 : 1 ≤ D.S.length := by rw [hs.len]; decide
        have hS6 : D.S.length ≤ 65536 := by rw [hs.len]; decide
        have hok := hs.ok
        have hj0 : (0 : Int) ≤ (j : Int) := by omega
        have hbl : b8 < wr.heap.size := (Array.getElem?_eq_some_iff.1 hs.box).1
        have hboxe := hs.box
        have HBOX := Lib.hid hboxe
        have hwc : Below wr.heap.size wr wr.drew := (Below.refl _ wr).drew
        have HDO := Lib.hid (ldo_any (X := fun k => k = b8) (hs.disk.below hwc) (hs.ref.below hwc) (fun k e => by subst e; exact Nat.lt_of_lt_of_le hbl hwc.size) hm9 hok hS1 hS6 a HAC.out (hbw.trans (hwc.mono hbw.size)))
        unfold rdV acV at HDO
        obtain ⟨hoA, hlA⟩ := actD_ok hok HAC.out
        have HLA := Lib.hid (hlA.trans hs.len)
        clear hbx hrow haj c0 c1 c2' c3 d0 d1 d2 d3 hbw hS7 hac hboxe hwc hs hlA
        have e0 := HS7.out.1
        go_upto_region 8 with fail
        clear e0 hk3
        refine wp_region_held_drew (S := (S4 ab (ao + j * 4) a)) (by kernel_rfl) (by exact HS7.out) (fun hHeld => ?_)
        refine take1_ (i := 0) (v := ?_) (a' := ?_) (some 48) #[true, false, false, false, false, false, false, false, false, false, false] rfl rfl (by kernel_rfl) (fun _ _ _ h => h) (Or.inl ⟨by rfl, ?_⟩) hHeld ?_ ?_
        rotate_left
        · (intro w hSw; (try dsimp only at hSw); obtain ⟨s6, s7, s8, s9⟩ := hSw; go_simp; (try with_reducible rfl))
        rotate_left
        · simp only [Act.put, List.setIfInBounds_toArray, List.set_cons_zero, List.set_cons_succ]
          rfl
        refine take1_ (i := 2) (v := ?_) (a' := ?_) (some 50) #[true, false, true, false, false, false, false, false, false, false, false] rfl rfl (by kernel_rfl) (fun _ _ _ h => h) (Or.inl ⟨by rfl, ?_⟩) hHeld ?_ ?_
        rotate_left
        · (intro w hSw; (try dsimp only at hSw); obtain ⟨s6, s7, s8, s9⟩ := hSw; go_simp; (try with_reducible rfl))
        rotate_left
        · simp only [Act.put, List.setIfInBounds_toArray, List.set_cons_zero, List.set_cons_succ]
          rfl
        refine take1_ (i := 3) (v := ?_) (a' := ?_) (some 51) #[true, false, true, true, false, false, false, false, false, false, false] rfl rfl (by kernel_rfl) (fun _ _ _ h => h) (Or.inl ⟨by rfl, ?_⟩) hHeld ?_ ?_
        rotate_left
        · (intro w hSw; (try dsimp only at hSw); obtain ⟨s6, s7, s8, s9⟩ := hSw; go_simp; (try with_reducible rfl))
        rotate_left
        · simp only [Act.put, List.setIfInBounds_toArray, List.set_cons_zero, List.set_cons_succ]
          rfl
        refine take1_ (i := 4) (v := ?_) (a' := ?_) (some 52) #[true, false, true, true, true, false, false, false, false, false, false] rfl rfl (by kernel_rfl) (fun _ _ _ h => h) (Or.inl ⟨by rfl, ?_⟩) hHeld ?_ ?_
        rotate_left
        · (intro w hSw; (try dsimp only at hSw); obtain ⟨s6, s7, s8, s9⟩ := hSw; go_simp; (try with_reducible rfl))
        rotate_left
        · simp only [Act.put, List.setIfInBounds_toArray, List.set_cons_zero, List.set_cons_succ]
          rfl
        refine take1_ (i := 5) (v := ?_) (a' := ?_) (some 53) #[true, false, true, true, true, true, false, false, false, false, false] rfl rfl (by kernel_rfl) (fun _ _ _ h => h) (Or.inl ⟨by rfl, ?_⟩) hHeld ?_ ?_
        rotate_left
        · (intro w hSw; (try dsimp only at hSw); obtain ⟨s6, s7, s8, s9⟩ := hSw; go_simp; (try with_reducible rfl))
        rotate_left
        · simp only [Act.put, List.setIfInBounds_toArray, List.set_cons_zero, List.set_cons_succ]
          rfl
        refine loud1_ (i := 1) (some 49) #[true, true, true, true, true, true, false, false, false, false, false] rfl rfl (by kernel_rfl) (fun K hK => ?_)
        go_simp
        skip
        refine hK.out _ _ (by (first | with_reducible exact hnx | with_reducible exact hHeld | exact hnx.keep tape_set5 hneb)) (fun hHeld' => ?_)
        clear hK K hHeld
        have hHeld := hHeld'
        clear hHeld'
        try simp only [Act.put, List.setIfInBounds_toArray, List.set_cons_zero, List.set_cons_succ]
        refine loud1_ (i := 6) (some 54) #[true, true, true, true, true, true, true, false, false, false, false] rfl rfl (by kernel_rfl) (fun K hK => ?_)
        go_simp
        (go_at_call 19; refine HDO.out.mono ?_; rintro e w7 ⟨vq7, vS7, vQ7, rfl, hde⟩; obtain ⟨A8, c8, rfl, _⟩ := hde.ref.secs; obtain ⟨A9, c9, rfl, _⟩ := hde.ref.que; unfold rdV; have HDE := Lib.hid hde; have hnx : S4 ab (ao + j * 4) a w7 := HS7.out.keep ((Keep.of_below ((Below.refl _ wr).drew)).trans hde.keep) (fun e => by have := hge ab e; omega); clear k0 k1 k2 k3 k4; have hneb : ¬ ab = b8 := (by omega); have h6 := hde.keep.heap (old_heap HBOX.out ((Below.refl _ wr).drew)) hnb; have n0 : w7.cell? ⟨b8, 0, none⟩ = some (.slice AS D.S.length cS) := cell_row h6 0; have n1 : w7.cell? ⟨b8, 1, none⟩ = some (.slice AQ D.Q.length cQ) := cell_row h6 1; have n2 : w7.cell? ⟨b8, 2, none⟩ = some (.bool D.dead) := cell_row h6 2; have n3 : w7.cell? ⟨b8, 3, none⟩ = some (.int .i64 D.arm) := cell_row h6 3; have n4 : w7.cell? ⟨b8, 4, none⟩ = some (.int .i64 D.deeds) := cell_row h6 4; have m0 := free_row h6 0; have m1 := free_row h6 1; have m2 := free_row h6 2; have m3 := free_row h6 3; have m4 := free_row h6 4; clear h6 hde)
        refine hK.out _ _ (by (first | with_reducible exact hnx | with_reducible exact hHeld | exact hnx.keep tape_set5 hneb)) (fun hHeld' => ?_)
        clear hK K hHeld
        have hHeld := hHeld'
        clear hHeld'
        try simp only [Act.put, List.setIfInBounds_toArray, List.set_cons_zero, List.set_cons_succ]
        refine take1_ (i := 7) (v := ?_) (a' := ?_) (some 47) #[true, true, true, true, true, true, true, true, false, false, false] rfl rfl (by kernel_rfl) (fun _ _ _ h => h) (Or.inl ⟨by rfl, ?_⟩) hHeld ?_ ?_
        rotate_left
        · (intro w hSw; (try dsimp only at hSw); obtain ⟨s6, s7, s8, s9⟩ := hSw; go_simp; (try with_reducible rfl))
        rotate_left
        · simp only [Act.put, List.setIfInBounds_toArray, List.set_cons_zero, List.set_cons_succ]
          rfl
        refine take1_ (i := 8) (v := ?_) (a' := ?_) (some 55) #[true, true, true, true, true, true, true, true, true, false, false] rfl rfl (by kernel_rfl) (fun _ _ _ h => h) (Or.inl ⟨by rfl, ?_⟩) hHeld ?_ ?_
        rotate_left
        · (intro w hSw; (try dsimp only at hSw); obtain ⟨s6, s7, s8, s9⟩ := hSw; go_simp; (try with_reducible rfl))
        rotate_left
        · simp only [Act.put, List.setIfInBounds_toArray, List.set_cons_zero, List.set_cons_succ]
          rfl
        refine take1_ (i := 9) (v := ?_) (a' := ?_) (some 56) #[true, true, true, true, true, true, true, true, true, true, false] rfl rfl (by kernel_rfl) (fun _ _ _ h => h) (Or.inl ⟨by rfl, ?_⟩) hHeld ?_ ?_
        rotate_left
        · (intro w hSw; (try dsimp only at hSw); obtain ⟨s6, s7, s8, s9⟩ := hSw; go_simp; (try with_reducible rfl))
        rotate_left
        · simp only [Act.put, List.setIfInBounds_toArray, List.set_cons_zero, List.set_cons_succ]
          rfl
        refine loud1_ (i := 10) (none) #[true, true, true, true, true, true, true, true, true, true, true] rfl rfl (by kernel_rfl) (fun K hK => ?_)
        go_simp
        (rw [← set5])
        refine hK.out _ _ (by (first | with_reducible exact hnx | with_reducible exact hHeld | exact hnx.keep tape_set5 hneb)) (fun hHeld' => ?_)
        clear hK K hHeld
        have hHeld := hHeld'
        clear hHeld'
        try simp only [Act.put, List.setIfInBounds_toArray, List.set_cons_zero, List.set_cons_succ]
        refine wpAnyH_done (by kernel_rfl) ?_ _
        
        have hnxt := HS.out.step HDE.out ((Below.refl _ wr).drew) hoA HLA.out hp6w
        have hcm2 := calm_act HCM.out a (by have := HK3.out; simpa using this)
        clear HDO HBOX HS7 HAC HBw hge hok hS1 hS6 m0 m1 m2 m3 m4 hbl
        revert hnxt
        generalize set5 w7 b8 (.slice A8 (actD D a).S.length c8) (.slice A9 (actD D a).Q.length c9) (.bool (actD D a).dead) (.int .i64 (actD D a).arm) (.int .i64 (actD D a).deeds) = w9
        intro hnxt
        have HN := Lib.hid (⟨_, _, _, _, hnxt, hcm2⟩ : ∃ vq vS vQ D, PlSt w p gS b8 9 (j + 1) vq vS vQ D w9 ∧ Calm D)
        clear hnxt HDE HLA hoA hHeld hcm2 HK3
        go_wp2
        exact ⟨⟨j + 1, by omega, by omega, by go_num, HN⟩, by simp [intOf]; omega⟩
    · have hor : ∀ {G : Prop}, ((j : Int) < (L0.length : Int) → ¬ (j : Int) < 20 → G) → (¬ (j : Int) < (L0.length : Int) → G) → G := fun h1 h2 => by
        by_cases h : (j : Int) < (L0.length : Int)
        · exact h1 h (by omega)
        · exact h2 h
      clear hs
      refine hor (fun hj1 hj2 => ?_) (fun hj1 => ?_)
      all_goals
        clear hor hgo
        go_wp2
        go_meet
        case rel => exact Lib.hid ⟨_, _, _, _, j, hj40, HS.out, HCM.out⟩
  case rest =>
    obtain ⟨vq, vS, vQ, D0, k, hk20, hs, hcm⟩ := hcut.out
    obtain ⟨wr, hwr⟩ : ∃ wr, wr = wc := ⟨_, rfl⟩
    rw [← hwr] at hs ⊢
    clear hwr hcut HST
    obtain ⟨hf2, hfq, hfc, hfl, hfd1, hfd2⟩ := flush_facts hcm hs.ok
    have HFL := Lib.hid (dflush_any hs.disk (m := k) (by omega) hs.ok)
    rw [hf2] at HFL
    have hfl9 : (flushD D0).1.S.length = 9 := hfl.trans hs.len
    obtain ⟨D, hD⟩ : ∃ D, (flushD D0).1 = D := ⟨_, rfl⟩
    rw [hD] at HFL hfq hfc hfl9 hfd1 hfd2
    unfold DTo at HFL
    have HS := Lib.hid hs
    have HDF := Lib.hid (⟨hfq, hfc, hfl9, hfd1, hfd2⟩ : D.Q = [] ∧ Calm D ∧ D.S.length = 9 ∧ 0 ≤ D.deeds ∧ D.deeds ≤ k + 1)
    clear hf2 hfq hfc hfl hfd1 hfd2 hfl9 hD hs hcm
    go_upto_region 11 with (go_at_call 17; go_must (refine HFL.out.mono ?_; rintro e wf hdt; have hb := DTo.base HS.out.disk hdt; obtain ⟨rfl, vqf, hDf, -, -⟩ := hdt; have HF := Lib.hid (⟨hDf, HS.out.below.trans hb⟩ : DkAt wf w.heap.size p gS vqf D ∧ Below w.heap.size w wf); clear hb hDf))
    have HR0 : Hid (SfR w wf.heap.size p gS vqf (.slice none 0 0) D 0 wf) := Lib.hid ⟨HF.out.1, World.ownsRow_nil _ _ _ _, (fun k hk => by cases hk), HF.out.2, HF.out.2.size, Ft.lt HF.out.1, Nat.le_refl _⟩
    clear HF HFL HS
    revert HR0
    generalize hB : wf.heap.size = B
    intro HR0
    clear hB
    go_wp2
    go_loopw [10, 11] (fun v iv wr => ∃ n : Nat, n ≤ 9 ∧ iv = .int .i64 (n : Int) ∧ Hid (SfR w B p gS vqf v D n wr)) (fun _ iv _ => (9 - intOf iv).toNat)
    case atStart => exact ⟨0, by omega, by rfl, HR0⟩
    case round =>
      clear HR0
      obtain ⟨n, hn9, rfl, HJ⟩ := hrel
      obtain ⟨s10, c10, rfl⟩ := own_slice1 HJ.out.row
      by_cases hlt : n < 9
      · have hltI : (n : Int) < 9 := by omega
        obtain ⟨s, hs⟩ : ∃ s, D.S[n]? = some s := ⟨_, List.getElem?_eq_getElem (by rw [HDF.out.2.2.1]; exact hlt)⟩
        obtain ⟨hm, hr⟩ := rd_calm HDF.out.1 HDF.out.2.1.1 n s hs
        have HRD := Lib.hid (dread_any (n : Int) HJ.out.disk (by rw [HDF.out.1]; decide))
        rw [hm, hr] at HRD
        unfold RdEnd at HRD
        obtain ⟨CS, hCS⟩ : ∃ CS, scF s = CS := ⟨_, rfl⟩
        have hcl : CS.length = 128 := by rw [← hCS]; exact scF_len s
        have ho1 : ∀ u ∈ CS, u.oneCell' = true := by rw [← hCS]; exact scF_one s
        have hsv : secV s.1 = .agg CS.toArray := by rw [← hCS]; rfl
        rw [hsv] at HRD
        have HCL := Lib.hid hcl
        have HO1 := Lib.hid ho1
        have HSN := Lib.hid hs
        have HCS := Lib.hid hCS
        clear hs hm hr hCS hcl ho1 hsv
        have hzs := zero_sec
        go_upto_region 16 with (first
          | (go_at_call 14; refine HRD.out.mono ?_; rintro e wa ⟨rfl, hba⟩; have HA := Lib.hid (HJ.out.below' hba); clear hba)
          | (refine wpList_store_row rfl 31 (.tmp 12) (.tmp 68) rfl wa.heap.size zArr CS.toArray 31 rfl rfl (heap_alloc_last _ _) (by simp only [List.size_toArray]; rw [HCL.out]; exact size_sec) (by simp [HCL.out, zArr_size]) (all_oneCell_toArray HO1.out) ?_))
        rw [World.setRow_alloc_new]
        have HB := Lib.hid (HA.out.below' ((Below.refl _ wa).alloc (Nat.le_refl _) (.cells CS.toArray 31)))
        have HT := Lib.hid (heap_alloc_last wa (.cells CS.toArray 31 (0, 0)))
        clear HJ HA HRD
        revert HB HT
        generalize wa.alloc (.cells CS.toArray 31) = wb
        generalize wa.heap.size = b12
        intro HB HT
        have HB2 := Lib.hid (HB.out.below' ((Below.refl _ wb).alloc (Nat.le_refl _) (.cells CS.toArray 31)))
        have HT2 := Lib.hid (heap_alloc_last wb (.cells CS.toArray 31 (0, 0)))
        go_upto_region 14 with (first
          | (refine wpList_load_row rfl 31 (.tmp 12) rfl b12 rfl _ _ _ _ HT.out Try.underlying31 rfl (by simp only [List.size_toArray]; rw [HCL.out]; exact size_sec) ?_)
          | (refine wpList_buildSlice rfl 54 (.tmp 71) rfl 31 zArr CS 128 128 Try.underlying54 info_sec3 rfl zArr_size HCL.out (by decide) (by decide) ?_)
          | (at_builtin; refine wpList_append_rd _ rfl _ _ 54 rfl B 31 (.agg zArr) 128 128 Try.underlying54 info_sec3 (by simp [Value.cells, zArr_size]) (by decide) _ n _ rfl HB2.out.row _ 1 CS rfl (rd_row HT2.out HCL.out 1) HO1.out ?c2 (by decide) ?c3 ?_; (case c2 => omega); (case c3 => exact HB2.out.bB); intro v' w5 hown1 hbel1 hg1; have HN := Lib.hid (HB2.out.append HSN.out hg1 (by rw [HCS.out]; exact hown1)); clear hown1 hbel1 hg1))
        go_wp2
        exact ⟨⟨n + 1, by omega, by go_num, HN⟩, by simp [intOf]; omega⟩
      · have hn : n = 9 := by omega
        subst hn
        clear hlt
        have hmx := maxI_two
        obtain ⟨ma, hma, hma0⟩ : ∃ ma, mxI arm 0 = ma ∧ 0 ≤ ma := ⟨_, rfl, by unfold mxI; split <;> omega⟩
        have hmb : ma ≤ 9223372036854775807 := by rw [← hma]; unfold mxI; split <;> omega
        obtain ⟨r, hr, hr30⟩ : ∃ r : Nat, ma % 30 = (r : Int) ∧ r < 30 := ⟨(ma % 30).toNat, by omega, by omega⟩
        have HAR := Lib.hid (darm_any (r : Int) HJ.out.disk)
        obtain ⟨D3, hD3⟩ : ∃ D3, armD D (r : Int) = D3 := ⟨_, rfl⟩
        have hd3 : SfD D.S D3 [] [] 0 := by
          have h0 := HDF.out
          rw [← hD3]
          unfold armD
          rw [h0.2.1.1, if_neg Bool.false_ne_true]
          refine ⟨rfl, by rw [h0.1]; rfl, by rw [h0.1]; rfl, by rw [h0.1]; decide, fun q hq => by rw [h0.1] at hq; exact (List.not_mem_nil hq).elim, ?_, ⟨h0.2.2.2.1, by have := h0.2.2.2.2; show D.deeds ≤ _; push_cast; omega⟩⟩
          show -1 ≤ mxI (r : Int) (-1) ∧ mxI (r : Int) (-1) ≤ 100
          unfold mxI
          split <;> omega
        rw [hD3] at HAR
        have HD3 := Lib.hid hd3
        clear hD3 hd3
        obtain ⟨S1, hS1⟩ : ∃ S1, D.S = S1 := ⟨_, rfl⟩
        go_upto_region 18 with (go_at_call 16; go_must (refine HAR.out.mono ?_; rintro e wA hht; have hst := SfR.arm HJ.out hht (by rw [HDF.out.2.2.1]); rw [hS1] at hst; have HST := Lib.hid hst; obtain ⟨rfl, -⟩ := hht; clear hst))
        rw [hS1] at HD3
        have HS9 : Hid (S1.length = 9) := Lib.hid (by rw [← hS1]; exact HDF.out.2.2.1)
        clear hS1 HAR HJ HDF hmx hma hma0 hmb hr hr30
        go_upto_block 4 with fail
        go_cut [14, 15] (fun v14 v15 wc => Hid (∃ vq D P Z j, j ≤ 40 ∧ SfW w B p gS vq (.slice s10 9 c10) v14 v15 S1 D P Z wc ∧ SfD S1 D P Z j))
        case first =>
          go_wp2
          go_loopw [14, 15, 16] (fun v14 v15 iv wr => ∃ j : Nat, j ≤ L0.length ∧ j ≤ 40 ∧ iv = .int .i64 (j : Int) ∧ Hid (∃ vq D P Z, SfW w B p gS vq (.slice s10 9 c10) v14 v15 S1 D P Z wr ∧ SfD S1 D P Z j)) (fun _ _ iv _ => (40 - intOf iv).toNat)
          case atStart => exact ⟨0, by omega, by omega, by rfl, Lib.hid ⟨_, _, _, _, HST.out, HD3.out⟩⟩
          case round =>
            clear HST HD3
            obtain ⟨j, hj, hj40, rfl, HJ⟩ := hrel
            obtain ⟨vq, D2, P, Z, hs, hd⟩ := HJ.out
            obtain ⟨s14, c14, rfl⟩ := own_slice1 hs.r14
            obtain ⟨s15, c15, rfl⟩ := own_slice1 hs.r15
            have HS := Lib.hid hs
            have HD := Lib.hid hd
            clear HJ hd
            by_cases hgo : j < L0.length ∧ j < 40
            · obtain ⟨hlt, h40⟩ := hgo
              have hlt' : (j : Int) < (L0.length : Int) := by omega
              have h40' : (j : Int) < 40 := by omega
              obtain ⟨a, haj⟩ : ∃ a, L0[j]? = some a := ⟨_, List.getElem?_eq_getElem hlt⟩
              obtain ⟨ab, ao, rfl, hrow⟩ := HV0.out (fun e => by rw [e] at hlt; exact absurd hlt (Nat.not_lt_zero _))
              have hac := HACS0.out a (List.mem_of_getElem? haj)
              have c1 := hrow j a haj 1 (by decide)
              have c2 := hrow j a haj 2 (by decide)
              have hab : ab < w.heap.size := World.block_lt_of_cell? w _ c1
              have d1 : wr.cell? ⟨ab, ao + j * 4 + 1, none⟩ = some (.int .i64 a.at_) := (hs.below.cell (p := ⟨ab, ao + j * 4 + 1, none⟩) hab).trans c1
              have d2 : wr.cell? ⟨ab, ao + j * 4 + 2, none⟩ = some a.vS := (hs.below.cell (p := ⟨ab, ao + j * 4 + 2, none⟩) hab).trans c2
              have HFU := Lib.hid (full_any' a.vS a.S wr hac.sl (hac.s.below hs.below))
              obtain ⟨s, hs0⟩ : ∃ s : Sc, scFull a.S = s := ⟨_, rfl⟩
              have hs1 : full a.S = s.1 := congrArg Subtype.val hs0
              obtain ⟨CS, hCS⟩ : ∃ CS, scF s = CS := ⟨_, rfl⟩
              have hcl : CS.length = 128 := by rw [← hCS]; exact scF_len s
              have ho1 : ∀ u ∈ CS, u.oneCell' = true := by rw [← hCS]; exact scF_one s
              have hsv : secV s.1 = .agg CS.toArray := by rw [← hCS]; rfl
              rw [hs1, hsv] at HFU
              have HCL := Lib.hid hcl
              have HC1 := Lib.hid ho1
              have HCS := Lib.hid hCS
              obtain ⟨t, ht9, hte, hx1, hx2⟩ := mod9 a.at_
              obtain ⟨x, hx⟩ : ∃ x, a.at_.tmod 9 = x := ⟨_, rfl⟩
              rw [hx] at hte hx1 hx2
              have hql := HD.out.ql
              have hda := HD.out.arm
              have hdd := HD.out.deeds
              have HWR := fun (W : World) (h : SfW w B p gS vq (.slice s10 9 c10) (.slice s14 P.length c14) (.slice s15 Z.length c15) S1 D2 P Z W) => Lib.hid (dwrite_any (t : Int) s h.disk (by omega) (by omega) (by omega))
              rw [hsv] at HWR
              unfold DTo at HWR
              have hwd := HD.out.write HS9.out t ht9 s (j : Int)
              obtain ⟨D3, hD3⟩ : ∃ D3, (writeD D2 (t : Int) s).1 = D3 := ⟨_, rfl⟩
              rw [hD3] at HWR hwd
              have HQU := fun (W : World) (vq : Value) (h : SfW w B p gS vq (.slice s10 9 c10) (.slice s14 P.length c14) (.slice s15 Z.length c15) S1 D3 P Z W) (hl : D3.Q.length ≤ 1000) => Lib.hid (dqueue_any h.disk hl)
              unfold QueTo at HQU
              have hzs := zero_arr
              have hzl : Z.length ≤ 40 := by have := HD.out.zq; rw [this, List.length_map]; omega
              have hpl : P.length ≤ 40 := by have := congrArg List.length HD.out.pq; rw [List.length_map, List.length_map] at this; omega
              have hjj : (0 : Int) ≤ (j : Int) := by omega
              clear hs0 hs1 hCS hcl ho1 hsv hrow haj hac c1 c2 hab hql hda hdd hD3 hs
              go_upto_region 25 with (first
                | (go_at_call 21; refine HFU.out.mono ?_; rintro e wa ⟨rfl, hba⟩; have HA := Lib.hid (HS.out.below' hba); clear hba)
                | (refine wpList_store_row rfl 30 (.tmp 18) (.tmp 102) rfl wa.heap.size zArr CS.toArray 30 rfl rfl (heap_alloc_last _ _) (by simp only [List.size_toArray]; rw [HCL.out]; exact size_arr) (by simp [HCL.out, zArr_size]) (all_oneCell_toArray HC1.out) ?_))
              rw [World.setRow_alloc_new]
              have H14B : Hid (∀ k, (Value.slice s14 P.length c14).ownBlock = some k → k < wa.heap.size) := Lib.hid fun k hk => (HA.out.r14.lt k hk).2
              have H15B : Hid (∀ k, (Value.slice s15 Z.length c15).ownBlock = some k → k < wa.heap.size) := Lib.hid fun k hk => (HA.out.r15.lt k hk).2
              have HB := Lib.hid (HA.out.below' ((Below.refl _ wa).alloc (Nat.le_refl _) (.cells CS.toArray 30)))
              have HT := Lib.hid (heap_alloc_last wa (.cells CS.toArray 30 (0, 0)))
              have HFT : Hid (∀ k, Ft p gS vq k → k < wa.heap.size) := Lib.hid (Ft.lt HA.out.disk)
              clear HS HA HFU
              revert HB HT H14B H15B HFT
              generalize wa.alloc (.cells CS.toArray 30) = wb
              generalize wa.heap.size = b18
              intro H14B H15B HB HT HFT
              go_upto_region 26 with (first
                | (refine wpList_load_row rfl 30 (.tmp 18) rfl b18 rfl _ _ _ _ HT.out Try.underlying30 rfl (by simp only [List.size_toArray]; rw [HCL.out]; exact size_arr) ?_)
                | (go_at_call 15; go_must (refine (HWR _ HB.out).out.mono ?_; rintro e wd hdt; obtain ⟨vqd, hst⟩ := HB.out.step hdt; have HST := Lib.hid hst; obtain ⟨rfl, _, _, hkp, _⟩ := hdt; have HT2 := Lib.hid (hkp.heap HT.out (fun e => Nat.lt_irrefl _ (HFT.out _ e))); clear hst hkp)))
              clear HB HT HWR HFT
              refine hwd.elim (fun hwd => ?_) (fun hwd => ?_)
              · have HD1 := Lib.hid hwd.1
                have hlq := hwd.2
                have hlI : (Z.length : Int) < (D3.Q.length : Int) := by omega
                have hq9 : D3.Q.length ≤ 1000 := by omega
                clear hlq
                go_upto_region 27 with (go_at_call 12; go_must (refine (HQU _ _ HST.out hq9).out.mono ?_; rintro e wq ⟨vq0, rfl, hoq, hbq⟩; obtain ⟨sq, cq, rfl⟩ := own_slice1 hoq; have HST1 := Lib.hid (HST.out.below' hbq); have HT3 := Lib.hid (old_heap HT2.out hbq); clear hoq hbq))
                clear HST HT2 HQU hq9 hlI
                have HST := HST1
                clear HST1
                obtain ⟨ws, hws⟩ : ∃ ws, prF ((t : Int), (j : Int)) = ws := ⟨_, rfl⟩
                have hwl : ws.length = 2 := by rw [← hws]; rfl
                have hwo : ∀ u ∈ ws, u.oneCell' = true := by rw [← hws]; exact prF_one _
                have hbp := built_pr ((t : Int), (j : Int))
                rw [hws] at hbp
                have HWL := Lib.hid hwl
                have HWO := Lib.hid hwo
                have HWS := Lib.hid hws
                have HBP := Lib.hid hbp
                have hi : (Try.prog.info? 30).map (·.size) = some CS.length := by rw [HCL.out]; exact size_arr
                have HS0 : Hid (wq.drew.rangeAt b18 0 CS) := Lib.hid ((World.rangeAt_drew _ _ _ _).2 (box_range HT3.out))
                have HSTD := Lib.hid (HST.out.below' ((Below.refl _ wq).drew))
                have hu := Try.underlying30
                clear hwl hwo hbp hws HST HT3
                refine wp_region_F (S := (fun w' => w'.rangeAt b18 0 CS)) 11 (by kernel_rfl) (by exact HS0.out) (fun hHeld => ?_)
                refine take1F (i := 0) (v := ?_) (a' := ?_) (some 113) #[true, false, false, false, false, false, false, false, false, false, false, false] rfl rfl (by kernel_rfl) (fun _ _ _ h => h) (Or.inl ⟨by rfl, ?_⟩) hHeld ?_ ?_
                rotate_left
                · (intro w hSw; (try dsimp only at hSw); go_simp; (try with_reducible rfl))
                rotate_left
                · simp only [Act.put, List.setIfInBounds_toArray, List.set_cons_zero, List.set_cons_succ]
                  rfl
                refine take1F (i := 1) (v := ?_) (a' := ?_) (some 114) #[true, true, false, false, false, false, false, false, false, false, false, false] rfl rfl (by kernel_rfl) (fun _ _ _ h => h) (Or.inl ⟨by rfl, ?_⟩) hHeld ?_ ?_
                rotate_left
                · (intro w hSw; (try dsimp only at hSw); go_simp; (try with_reducible rfl))
                rotate_left
                · simp only [Act.put, List.setIfInBounds_toArray, List.set_cons_zero, List.set_cons_succ]
                  rfl
                refine take1F (i := 2) (v := ?_) (a' := ?_) (some 115) #[true, true, true, false, false, false, false, false, false, false, false, false] rfl rfl (by kernel_rfl) (fun _ _ _ h => h) (Or.inl ⟨by rfl, ?_⟩) hHeld ?_ ?_
                rotate_left
                · (intro w hSw; (try dsimp only at hSw); go_simp; (try with_reducible rfl))
                rotate_left
                · simp only [Act.put, List.setIfInBounds_toArray, List.set_cons_zero, List.set_cons_succ]
                  rfl
                refine take1F (i := 3) (v := .agg ws.toArray) (a' := ?_) (some 116) #[true, true, true, true, false, false, false, false, false, false, false, false] rfl rfl (by kernel_rfl) (fun _ _ _ h => h) (yieldsIf_build (by rfl) 57 _ rfl [(0, .int .i64 (t : Int)), (1, .int .i64 (j : Int))] (by simp [Act.eval]) ws.toArray HBP.out) hHeld ?_ ?_
                rotate_left
                · simp only [Act.put, List.setIfInBounds_toArray, List.set_cons_zero, List.set_cons_succ]
                  rfl
                refine take1F (i := 6) (v := ?_) (a' := ?_) (some 119) #[true, true, true, true, false, false, true, false, false, false, false, false] rfl rfl (by kernel_rfl) (fun _ _ _ h => h) (Or.inl ⟨by rfl, ?_⟩) hHeld ?_ ?_
                rotate_left
                · (intro w hSw; (try dsimp only at hSw); go_simp; (try with_reducible rfl))
                rotate_left
                · simp only [Act.put, List.setIfInBounds_toArray, List.set_cons_zero, List.set_cons_succ]
                  rfl
                refine take1F (i := 7) (v := .agg CS.toArray) (a' := ?_) (some 120) #[true, true, true, true, false, false, true, true, false, false, false, false] rfl rfl (by kernel_rfl) (fun _ _ _ h => h) (yieldsIf_load_mid (by rfl) 30 (.tmp 18) rfl b18 0 rfl CS _ (fun w h => h) hu rfl hi) hHeld ?_ ?_
                rotate_left
                · simp only [Act.put, List.setIfInBounds_toArray, List.set_cons_zero, List.set_cons_succ]
                  rfl
                have HST := HSTD
                clear HSTD HBP HS0
                revert HST hHeld
                generalize wq.drew = wd
                intro hHeld HST
                refine fork2F (i := 4) (j := 8) (some 117) (some 121) #[true, true, true, true, true, false, true, true, false, false, false, false] #[true, true, true, true, false, false, true, true, true, false, false, false] rfl rfl rfl rfl (by kernel_rfl) (fun K hK => ?_) (fun K hK => ?_)
                · refine step_buildSlice (by rfl) 55 (.tmp 116) (by rfl) 57 #[.int .i64 0, .int .i64 0] ws 2 16 Try.underlying55 info_pr (by rfl) (by rfl) HWL.out (by decide) (by decide) ?_
                  have hbA := (Below.refl wd.heap.size wd).alloc (Nat.le_refl _) (.cells ws.toArray 57)
                  have HST1 := Lib.hid (HST.out.below' hbA)
                  have H17 := Lib.hid (heap_alloc_last wd (.cells ws.toArray 57 (0, 0)))
                  have hnx := range_bel hHeld hbA
                  clear HST hbA
                  revert HST1 H17 hnx hK
                  generalize wd.alloc (.cells ws.toArray 57) = w17
                  generalize wd.heap.size = g17
                  intro hK HST H17 hnx
                  refine hK.out _ _ hnx (fun hHeld' => ?_)
                  clear hK K hHeld hnx
                  have hHeld := hHeld'
                  clear hHeld'
                  (try simp only [Act.put, List.setIfInBounds_toArray, List.set_cons_zero, List.set_cons_succ])
                  refine fork2F (i := 5) (j := 8) (some 118) (some 121) #[true, true, true, true, true, true, true, true, false, false, false, false] #[true, true, true, true, true, false, true, true, true, false, false, false] rfl rfl rfl rfl (by kernel_rfl) (fun K hK => ?_) (fun K hK => ?_)
                  · refine step_append_at (by rfl) (.tmp 113) (.tmp 117) 55 (by rfl) B 57 (.agg #[.int .i64 0, .int .i64 0]) 2 16 Try.underlying55 info_pr (by rfl) (by decide) _ P.length (rowsOf prF P) (by rfl) HST.out.r14 g17 1 ws (by rfl) H17.out HWL.out HWO.out (by omega) (by decide) HST.out.bB ?_
                    intro v18 w18 ho18 hg18 hat18
                    have hnx := range_grow HST.out.r14 hg18 hHeld (fun e => Nat.lt_irrefl _ (H14B.out _ e))
                    have HST1 := Lib.hid (HST.out.app14 hg18 (by rw [HWS.out]; exact ho18) hat18)
                    clear HST ho18 hg18 hat18 H17
                    have HST := HST1
                    clear HST1
                    refine hK.out _ _ hnx (fun hHeld' => ?_)
                    clear hK K hHeld hnx
                    have hHeld := hHeld'
                    clear hHeld'
                    (try simp only [Act.put, List.setIfInBounds_toArray, List.set_cons_zero, List.set_cons_succ])
                    refine loud1F (i := 8) (some 121) #[true, true, true, true, true, true, true, true, true, false, false, false] rfl rfl (by kernel_rfl) (fun K hK => ?_)
                    refine step_buildSlice (by rfl) 54 (.tmp 120) (by rfl) 31 zArr CS 128 128 Try.underlying54 info_sec3 (by rfl) zArr_size HCL.out (by decide) (by decide) ?_
                    have hbA := (Below.refl w18.heap.size w18).alloc (Nat.le_refl _) (.cells CS.toArray 31)
                    have HST1 := Lib.hid (HST.out.below' hbA)
                    have H21 := Lib.hid (heap_alloc_last w18 (.cells CS.toArray 31 (0, 0)))
                    have hnx := range_bel hHeld hbA
                    clear HST hbA
                    revert HST1 H21 hnx hK
                    generalize w18.alloc (.cells CS.toArray 31) = w21
                    generalize w18.heap.size = g21
                    intro hK HST H21 hnx
                    refine hK.out _ _ hnx (fun hHeld' => ?_)
                    clear hK K hHeld hnx
                    have hHeld := hHeld'
                    clear hHeld'
                    (try simp only [Act.put, List.setIfInBounds_toArray, List.set_cons_zero, List.set_cons_succ])
                    refine loud1F (i := 9) (some 122) #[true, true, true, true, true, true, true, true, true, true, false, false] rfl rfl (by kernel_rfl) (fun K hK => ?_)
                    refine step_append_at (by rfl) (.tmp 119) (.tmp 121) 54 (by rfl) B 31 (.agg zArr) 128 128 Try.underlying54 info_sec3 (by simp [Value.cells, zArr_size]) (by decide) _ Z.length (rowsOf scF Z) (by rfl) HST.out.r15 g21 1 CS (by rfl) H21.out HCL.out HC1.out (by omega) (by decide) HST.out.bB ?_
                    intro v22 w22 ho22 hg22 hat22
                    have hnx := range_grow HST.out.r15 hg22 hHeld (fun e => Nat.lt_irrefl _ (H15B.out _ e))
                    have HST1 := Lib.hid (HST.out.app15 hg22 (by rw [HCS.out]; exact ho22) hat22)
                    clear HST ho22 hg22 hat22 H21
                    have HST := HST1
                    clear HST1
                    refine hK.out _ _ hnx (fun hHeld' => ?_)
                    clear hK K hHeld hnx
                    have hHeld := hHeld'
                    clear hHeld'
                    (try simp only [Act.put, List.setIfInBounds_toArray, List.set_cons_zero, List.set_cons_succ])
                    refine loud1F (i := 10) (some 14) #[true, true, true, true, true, true, true, true, true, true, true, false] rfl rfl (by kernel_rfl) (fun K hK => ?_)
                    go_simp
                    refine hK.out _ _ hHeld (fun hHeld' => ?_)
                    clear hK K hHeld
                    have hHeld := hHeld'
                    clear hHeld'
                    (try simp only [Act.put, List.setIfInBounds_toArray, List.set_cons_zero, List.set_cons_succ])
                    refine last1F (some 15) #[true, true, true, true, true, true, true, true, true, true, true, true] rfl rfl (by kernel_rfl) (fun K hK => ?_)
                    go_simp
                    refine hK.out _ _ ?_
                    clear hK K hHeld
                    (try simp only [Act.put, List.setIfInBounds_toArray, List.set_cons_zero, List.set_cons_succ])
                    refine wpAnyF_done (by kernel_rfl) ?_ _
                    have HN := Lib.hid (⟨_, _, _, _, HST.out, HD1.out⟩ : ∃ vq D P Z, SfW w B p gS vq (.slice s10 9 c10) v18 v22 S1 D P Z w22 ∧ SfD S1 D P Z (j + 1))
                    clear HST HD1
                    go_wp2
                    exact ⟨⟨j + 1, by omega, by omega, by go_num, HN⟩, by simp [intOf]; omega⟩
                  · refine step_buildSlice (by rfl) 54 (.tmp 120) (by rfl) 31 zArr CS 128 128 Try.underlying54 info_sec3 (by rfl) zArr_size HCL.out (by decide) (by decide) ?_
                    have hbA := (Below.refl w17.heap.size w17).alloc (Nat.le_refl _) (.cells CS.toArray 31)
                    have hn21 : ∀ k, (Value.slice s14 P.length c14).ownBlock = some k → k < w17.heap.size := fun k hk => (HST.out.r14.lt k hk).2
                    have HST1 := Lib.hid (HST.out.below' hbA)
                    have H21 := Lib.hid (heap_alloc_last w17 (.cells CS.toArray 31 (0, 0)))
                    have hnx := range_bel hHeld hbA
                    have H17' := Lib.hid (old_heap H17.out hbA)
                    clear H17
                    clear HST hbA
                    revert HST1 H21 hnx hK hn21 H17'
                    generalize w17.alloc (.cells CS.toArray 31) = w21
                    generalize w17.heap.size = g21
                    intro hK hn21 HST H21 hnx H17
                    refine hK.out _ _ hnx (fun hHeld' => ?_)
                    clear hK K hHeld hnx
                    have hHeld := hHeld'
                    clear hHeld'
                    (try simp only [Act.put, List.setIfInBounds_toArray, List.set_cons_zero, List.set_cons_succ])
                    refine loud1F (i := 5) (some 118) #[true, true, true, true, true, true, true, true, true, false, false, false] rfl rfl (by kernel_rfl) (fun K hK => ?_)
                    refine step_append_at (by rfl) (.tmp 113) (.tmp 117) 55 (by rfl) B 57 (.agg #[.int .i64 0, .int .i64 0]) 2 16 Try.underlying55 info_pr (by rfl) (by decide) _ P.length (rowsOf prF P) (by rfl) HST.out.r14 g17 1 ws (by rfl) H17.out HWL.out HWO.out (by omega) (by decide) HST.out.bB ?_
                    intro v18 w18 ho18 hg18 hat18
                    have hnx := range_grow HST.out.r14 hg18 hHeld (fun e => Nat.lt_irrefl _ (H14B.out _ e))
                    have H21' := Lib.hid (own_ne_block HST.out.r14 hg18 H21.out (fun e => Nat.lt_irrefl _ (hn21 _ e)))
                    clear H21 hn21
                    have H21 := H21'
                    clear H21'
                    have HST1 := Lib.hid (HST.out.app14 hg18 (by rw [HWS.out]; exact ho18) hat18)
                    clear HST ho18 hg18 hat18 H17
                    have HST := HST1
                    clear HST1
                    refine hK.out _ _ hnx (fun hHeld' => ?_)
                    clear hK K hHeld hnx
                    have hHeld := hHeld'
                    clear hHeld'
                    (try simp only [Act.put, List.setIfInBounds_toArray, List.set_cons_zero, List.set_cons_succ])
                    refine loud1F (i := 9) (some 122) #[true, true, true, true, true, true, true, true, true, true, false, false] rfl rfl (by kernel_rfl) (fun K hK => ?_)
                    refine step_append_at (by rfl) (.tmp 119) (.tmp 121) 54 (by rfl) B 31 (.agg zArr) 128 128 Try.underlying54 info_sec3 (by simp [Value.cells, zArr_size]) (by decide) _ Z.length (rowsOf scF Z) (by rfl) HST.out.r15 g21 1 CS (by rfl) H21.out HCL.out HC1.out (by omega) (by decide) HST.out.bB ?_
                    intro v22 w22 ho22 hg22 hat22
                    have hnx := range_grow HST.out.r15 hg22 hHeld (fun e => Nat.lt_irrefl _ (H15B.out _ e))
                    have HST1 := Lib.hid (HST.out.app15 hg22 (by rw [HCS.out]; exact ho22) hat22)
                    clear HST ho22 hg22 hat22 H21
                    have HST := HST1
                    clear HST1
                    refine hK.out _ _ hnx (fun hHeld' => ?_)
                    clear hK K hHeld hnx
                    have hHeld := hHeld'
                    clear hHeld'
                    (try simp only [Act.put, List.setIfInBounds_toArray, List.set_cons_zero, List.set_cons_succ])
                    refine loud1F (i := 10) (some 14) #[true, true, true, true, true, true, true, true, true, true, true, false] rfl rfl (by kernel_rfl) (fun K hK => ?_)
                    go_simp
                    refine hK.out _ _ hHeld (fun hHeld' => ?_)
                    clear hK K hHeld
                    have hHeld := hHeld'
                    clear hHeld'
                    (try simp only [Act.put, List.setIfInBounds_toArray, List.set_cons_zero, List.set_cons_succ])
                    refine last1F (some 15) #[true, true, true, true, true, true, true, true, true, true, true, true] rfl rfl (by kernel_rfl) (fun K hK => ?_)
                    go_simp
                    refine hK.out _ _ ?_
                    clear hK K hHeld
                    (try simp only [Act.put, List.setIfInBounds_toArray, List.set_cons_zero, List.set_cons_succ])
                    refine wpAnyF_done (by kernel_rfl) ?_ _
                    have HN := Lib.hid (⟨_, _, _, _, HST.out, HD1.out⟩ : ∃ vq D P Z, SfW w B p gS vq (.slice s10 9 c10) v18 v22 S1 D P Z w22 ∧ SfD S1 D P Z (j + 1))
                    clear HST HD1
                    go_wp2
                    exact ⟨⟨j + 1, by omega, by omega, by go_num, HN⟩, by simp [intOf]; omega⟩
                · refine step_buildSlice (by rfl) 54 (.tmp 120) (by rfl) 31 zArr CS 128 128 Try.underlying54 info_sec3 (by rfl) zArr_size HCL.out (by decide) (by decide) ?_
                  have hbA := (Below.refl wd.heap.size wd).alloc (Nat.le_refl _) (.cells CS.toArray 31)
                  have hn21 : ∀ k, (Value.slice s14 P.length c14).ownBlock = some k → k < wd.heap.size := fun k hk => (HST.out.r14.lt k hk).2
                  have HST1 := Lib.hid (HST.out.below' hbA)
                  have H21 := Lib.hid (heap_alloc_last wd (.cells CS.toArray 31 (0, 0)))
                  have hnx := range_bel hHeld hbA
                  clear HST hbA
                  revert HST1 H21 hnx hK hn21
                  generalize wd.alloc (.cells CS.toArray 31) = w21
                  generalize wd.heap.size = g21
                  intro hK hn21 HST H21 hnx
                  refine hK.out _ _ hnx (fun hHeld' => ?_)
                  clear hK K hHeld hnx
                  have hHeld := hHeld'
                  clear hHeld'
                  (try simp only [Act.put, List.setIfInBounds_toArray, List.set_cons_zero, List.set_cons_succ])
                  refine loud1F (i := 4) (some 117) #[true, true, true, true, true, false, true, true, true, false, false, false] rfl rfl (by kernel_rfl) (fun K hK => ?_)
                  refine step_buildSlice (by rfl) 55 (.tmp 116) (by rfl) 57 #[.int .i64 0, .int .i64 0] ws 2 16 Try.underlying55 info_pr (by rfl) (by rfl) HWL.out (by decide) (by decide) ?_
                  have hbA := (Below.refl w21.heap.size w21).alloc (Nat.le_refl _) (.cells ws.toArray 57)
                  have HST1 := Lib.hid (HST.out.below' hbA)
                  have H17 := Lib.hid (heap_alloc_last w21 (.cells ws.toArray 57 (0, 0)))
                  have hnx := range_bel hHeld hbA
                  have H21' := Lib.hid (old_heap H21.out hbA)
                  clear H21
                  clear HST hbA
                  revert HST1 H17 hnx hK H21'
                  generalize w21.alloc (.cells ws.toArray 57) = w17
                  generalize w21.heap.size = g17
                  intro hK HST H17 hnx H21
                  refine hK.out _ _ hnx (fun hHeld' => ?_)
                  clear hK K hHeld hnx
                  have hHeld := hHeld'
                  clear hHeld'
                  (try simp only [Act.put, List.setIfInBounds_toArray, List.set_cons_zero, List.set_cons_succ])
                  refine loud1F (i := 5) (some 118) #[true, true, true, true, true, true, true, true, true, false, false, false] rfl rfl (by kernel_rfl) (fun K hK => ?_)
                  refine step_append_at (by rfl) (.tmp 113) (.tmp 117) 55 (by rfl) B 57 (.agg #[.int .i64 0, .int .i64 0]) 2 16 Try.underlying55 info_pr (by rfl) (by decide) _ P.length (rowsOf prF P) (by rfl) HST.out.r14 g17 1 ws (by rfl) H17.out HWL.out HWO.out (by omega) (by decide) HST.out.bB ?_
                  intro v18 w18 ho18 hg18 hat18
                  have hnx := range_grow HST.out.r14 hg18 hHeld (fun e => Nat.lt_irrefl _ (H14B.out _ e))
                  have H21' := Lib.hid (own_ne_block HST.out.r14 hg18 H21.out (fun e => Nat.lt_irrefl _ (hn21 _ e)))
                  clear H21 hn21
                  have H21 := H21'
                  clear H21'
                  have HST1 := Lib.hid (HST.out.app14 hg18 (by rw [HWS.out]; exact ho18) hat18)
                  clear HST ho18 hg18 hat18 H17
                  have HST := HST1
                  clear HST1
                  refine hK.out _ _ hnx (fun hHeld' => ?_)
                  clear hK K hHeld hnx
                  have hHeld := hHeld'
                  clear hHeld'
                  (try simp only [Act.put, List.setIfInBounds_toArray, List.set_cons_zero, List.set_cons_succ])
                  refine loud1F (i := 9) (some 122) #[true, true, true, true, true, true, true, true, true, true, false, false] rfl rfl (by kernel_rfl) (fun K hK => ?_)
                  refine step_append_at (by rfl) (.tmp 119) (.tmp 121) 54 (by rfl) B 31 (.agg zArr) 128 128 Try.underlying54 info_sec3 (by simp [Value.cells, zArr_size]) (by decide) _ Z.length (rowsOf scF Z) (by rfl) HST.out.r15 g21 1 CS (by rfl) H21.out HCL.out HC1.out (by omega) (by decide) HST.out.bB ?_
                  intro v22 w22 ho22 hg22 hat22
                  have hnx := range_grow HST.out.r15 hg22 hHeld (fun e => Nat.lt_irrefl _ (H15B.out _ e))
                  have HST1 := Lib.hid (HST.out.app15 hg22 (by rw [HCS.out]; exact ho22) hat22)
                  clear HST ho22 hg22 hat22 H21
                  have HST := HST1
                  clear HST1
                  refine hK.out _ _ hnx (fun hHeld' => ?_)
                  clear hK K hHeld hnx
                  have hHeld := hHeld'
                  clear hHeld'
                  (try simp only [Act.put, List.setIfInBounds_toArray, List.set_cons_zero, List.set_cons_succ])
                  refine loud1F (i := 10) (some 14) #[true, true, true, true, true, true, true, true, true, true, true, false] rfl rfl (by kernel_rfl) (fun K hK => ?_)
                  go_simp
                  refine hK.out _ _ hHeld (fun hHeld' => ?_)
                  clear hK K hHeld
                  have hHeld := hHeld'
                  clear hHeld'
                  (try simp only [Act.put, List.setIfInBounds_toArray, List.set_cons_zero, List.set_cons_succ])
                  refine last1F (some 15) #[true, true, true, true, true, true, true, true, true, true, true, true] rfl rfl (by kernel_rfl) (fun K hK => ?_)
                  go_simp
                  refine hK.out _ _ ?_
                  clear hK K hHeld
                  (try simp only [Act.put, List.setIfInBounds_toArray, List.set_cons_zero, List.set_cons_succ])
                  refine wpAnyF_done (by kernel_rfl) ?_ _
                  have HN := Lib.hid (⟨_, _, _, _, HST.out, HD1.out⟩ : ∃ vq D P Z, SfW w B p gS vq (.slice s10 9 c10) v18 v22 S1 D P Z w22 ∧ SfD S1 D P Z (j + 1))
                  clear HST HD1
                  go_wp2
                  exact ⟨⟨j + 1, by omega, by omega, by go_num, HN⟩, by simp [intOf]; omega⟩
              · have HD1 := Lib.hid hwd.1
                have hlq := hwd.2
                have hlI : ¬ (Z.length : Int) < (D3.Q.length : Int) := by omega
                have hq9 : D3.Q.length ≤ 1000 := by omega
                clear hlq
                go_wp2_with (go_at_call 12; go_must (refine (HQU _ _ HST.out hq9).out.mono ?_; rintro e wq ⟨vq0, rfl, hoq, hbq⟩; obtain ⟨sq, cq, rfl⟩ := own_slice1 hoq; have HN := Lib.hid (⟨_, _, _, _, HST.out.below' hbq, HD1.out⟩ : ∃ vq D P' Z', SfW w B p gS vq (.slice s10 9 c10) (.slice s14 P.length c14) (.slice s15 Z.length c15) S1 D P' Z' wq ∧ SfD S1 D P' Z' (j + 1)); clear hoq hbq))
                exact ⟨⟨j + 1, by omega, by omega, by go_num, HN⟩, by simp [intOf]; omega⟩
            · have hor : ∀ {G : Prop}, ((j : Int) < (L0.length : Int) → ¬ (j : Int) < 40 → G) → (¬ (j : Int) < (L0.length : Int) → G) → G := fun h1 h2 => by
                by_cases h : (j : Int) < (L0.length : Int)
                · exact h1 h (by omega)
                · exact h2 h
              clear hs
              refine hor (fun hj1 hj2 => ?_) (fun hj1 => ?_)
              all_goals
                clear hor hgo
                go_wp2
                go_meet
                case rel => exact Lib.hid ⟨_, _, _, _, j, hj40, HS.out, HD.out⟩
        case rest =>
          obtain ⟨vq, D2, P, Z, j, hj40, hs, hd⟩ := hcut.out
          obtain ⟨s14, c14, rfl⟩ := own_slice1 hs.r14
          obtain ⟨s15, c15, rfl⟩ := own_slice1 hs.r15
          obtain ⟨wr, hwr⟩ : ∃ wr, wr = wc := ⟨_, rfl⟩
          rw [← hwr] at hs ⊢
          clear hwr hcut HST HD3
          obtain ⟨hok, hc1, hc2, hc3, hc4⟩ := crash_facts hd HS9.out hj40 K
          have HCR := Lib.hid (dcrash_any hs.disk (m := 200) (by omega) hok A' c' K (HKR.out.below boF_len hs.below))
          obtain ⟨D4, hD4⟩ : ∃ D4, crashD D2 K = D4 := ⟨_, rfl⟩
          rw [hD4] at HCR hc1 hc2 hc3 hc4
          unfold DTo at HCR
          have HD4 := Lib.hid (⟨hc1, hc2, hc3, hc4⟩ : D4.Q = [] ∧ D4.dead = false ∧ D4.S.length = 9 ∧ ∀ n, n < 9 → D4.S[n]? = some (wantN (S1.getD n sc0) D2.Q K (n : Int) D2.Q.length))
          obtain ⟨Q, hQ⟩ : ∃ Q, D2.Q = Q := ⟨_, rfl⟩
          have hzq := hd.zq
          have hpq := hd.pq
          have hq40 : Q.length ≤ 40 := by rw [← hQ]; have := hd.ql; omega
          rw [hQ] at HD4 hzq hpq
          have hPl : P.length = Q.length := by have := congrArg List.length hpq; simpa using this
          have hZl : Z.length = Q.length := by rw [hzq]; simp
          have HZQ := Lib.hid hzq
          have HPQ := Lib.hid hpq
          have HPL := Lib.hid hPl
          have HZL := Lib.hid hZl
          have HS := Lib.hid hs
          clear hok hc1 hc2 hc3 hc4 hD4 hQ hzq hpq hPl hZl hs hd
          go_upto_region 29 with (go_at_call 22; go_must (refine HCR.out.mono ?_; rintro e wx hdt; obtain ⟨vqx, hst⟩ := HS.out.step hdt; have HST := Lib.hid hst; obtain ⟨rfl, -⟩ := hdt; clear hst))
          clear HS HCR
          go_wp2
          go_loopw [19] (fun iv wr => ∃ n : Nat, n ≤ 9 ∧ iv = .int .i64 (n : Int) ∧ Hid (SfW w B p gS vqx (.slice s10 9 c10) (.slice s14 P.length c14) (.slice s15 Z.length c15) S1 D4 P Z wr)) (fun iv _ => (9 - intOf iv).toNat)
          case atStart => exact ⟨0, by omega, by rfl, HST⟩
          case round =>
            clear HST
            obtain ⟨n, hn9, rfl, HJ⟩ := hrel
            by_cases hlt : n < 9
            · have hltI : (n : Int) < 9 := by omega
              obtain ⟨hm, hr⟩ := rd_calm HD4.out.1 HD4.out.2.1 n _ (HD4.out.2.2.2 n hlt)
              have HRD := Lib.hid (dread_any (n : Int) HJ.out.disk (by rw [HD4.out.1]; decide))
              rw [hm, hr] at HRD
              unfold RdEnd at HRD
              obtain ⟨s, hs⟩ : ∃ s, wantN (S1.getD n sc0) Q K (n : Int) Q.length = s := ⟨_, rfl⟩
              rw [hs] at HRD
              obtain ⟨CS, hCS⟩ : ∃ CS, scF s = CS := ⟨_, rfl⟩
              have hcl : CS.length = 128 := by rw [← hCS]; exact scF_len s
              have ho1 : ∀ u ∈ CS, u.oneCell' = true := by rw [← hCS]; exact scF_one s
              have hsv : secV s.1 = .agg CS.toArray := by rw [← hCS]; rfl
              rw [hsv] at HRD
              have HCL := Lib.hid hcl
              have HO1 := Lib.hid ho1
              have HCS := Lib.hid (⟨hs, hCS⟩ : wantN (S1.getD n sc0) Q K (n : Int) Q.length = s ∧ scF s = CS)
              have hzs := zero_sec
              clear hs hm hr hCS hcl ho1 hsv
              go_upto_region 35 with (first
                | (go_at_call 14; refine HRD.out.mono ?_; rintro e wa ⟨rfl, hba⟩; have HA := Lib.hid (HJ.out.below' hba); clear hba)
                | (refine wpList_store_row rfl 31 (.tmp 20) (.tmp 134) rfl wa.heap.size zArr CS.toArray 31 rfl rfl (heap_alloc_last _ _) (by simp only [List.size_toArray]; rw [HCL.out]; exact size_sec) (by simp [HCL.out, zArr_size]) (all_oneCell_toArray HO1.out) ?_))
              rw [World.setRow_alloc_new]
              have HB := Lib.hid (HA.out.below' ((Below.refl _ wa).alloc (Nat.le_refl _) (.cells CS.toArray 31)))
              have HT := Lib.hid (heap_alloc_last wa (.cells CS.toArray 31 (0, 0)))
              clear HJ HA HRD
              revert HB HT
              generalize wa.alloc (.cells CS.toArray 31) = wb
              generalize wa.heap.size = b20
              intro HB HT
              have hr10 := HB.out.r10
              rw [HS9.out] at hr10
              have hrd := own_readF scF_len hr10 HS9.out.symm
              obtain ⟨b10, o10, rfl, hrw⟩ := hrd (fun e => by have := HS9.out; rw [e] at this; cases this)
              obtain ⟨z, hz⟩ : ∃ z, S1[n]? = some z := ⟨_, List.getElem?_eq_getElem (by rw [HS9.out]; exact hlt)⟩
              have hzd : S1.getD n sc0 = z := by rw [List.getD_eq_getElem?_getD, hz]; rfl
              rw [hzd] at HCS
              have hrow : wb.rangeAt b10 (o10 + n * 128) (scF z) := fun j v hv => by
                have hj : j < 128 := by have := (List.getElem?_eq_some_iff.1 hv).1; rwa [scF_len] at this
                exact (hrw n z hz j hj).trans hv
              obtain ⟨CZ, hCZ⟩ : ∃ CZ, scF z = CZ := ⟨_, rfl⟩
              have hzl : CZ.length = 128 := by rw [← hCZ]; exact scF_len z
              have hz1 : ∀ u ∈ CZ, u.oneCell' = true := by rw [← hCZ]; exact scF_one z
              rw [hCZ] at hrow
              have HROW := Lib.hid hrow
              have HZL2 := Lib.hid hzl
              have HZ1 := Lib.hid hz1
              have HCZ := Lib.hid hCZ
              clear hr10 hrd hrw hz hzd hrow hzl hz1 hCZ
              go_upto_region 36 with (first
                | (refine wpList_load_mid rfl 31 (.tmp 140) rfl b10 (o10 + n * 128) rfl CZ _ HROW.out Try.underlying31 rfl (by rw [HZL2.out]; exact size_sec) ?_)
                | (refine wpList_store_row rfl 31 (.tmp 22) (.tmp 141) rfl wb.heap.size zArr CZ.toArray 31 rfl rfl (heap_alloc_last _ _) (by simp only [List.size_toArray]; rw [HZL2.out]; exact size_sec) (by simp [HZL2.out, zArr_size]) (all_oneCell_toArray HZ1.out) ?_))
              rw [World.setRow_alloc_new]
              have hbA := (Below.refl wb.heap.size wb).alloc (Nat.le_refl _) (.cells CZ.toArray 31)
              have HC := Lib.hid (HB.out.below' hbA)
              have HT20 := Lib.hid (old_heap HT.out hbA)
              have HT22 := Lib.hid (heap_alloc_last wb (.cells CZ.toArray 31 (0, 0)))
              have HNE : Hid (b20 < wb.heap.size) := Lib.hid (Array.getElem?_eq_some_iff.1 HT.out).1
              have H15B : Hid (∀ k, Ft p gS vqx k ∨ (Value.slice (some ⟨b10, o10, none⟩) 9 c10).ownBlock = some k ∨ (Value.slice s14 P.length c14).ownBlock = some k ∨ (Value.slice s15 Z.length c15).ownBlock = some k → k < wb.heap.size) := Lib.hid fun k hk => by
                rcases hk with e | e | e | e
                · exact Ft.lt HB.out.disk k e
                · exact (HB.out.r10.lt k e).2
                · exact (HB.out.r14.lt k e).2
                · exact (HB.out.r15.lt k e).2
              clear hbA HB HT HROW
              revert HC HT20 HT22 HNE H15B
              generalize wb.alloc (.cells CZ.toArray 31) = wc2
              generalize wb.heap.size = b22
              intro HC HT20 HT22 HNE H15B
              go_wp2
              go_loopw [144] (fun iv wr => ∃ k : Nat, k ≤ Q.length ∧ iv = .int .i64 (k : Int) ∧ Hid (SfW w B p gS vqx (.slice (some ⟨b10, o10, none⟩) 9 c10) (.slice s14 P.length c14) (.slice s15 Z.length c15) S1 D4 P Z wr) ∧ Hid (wr.heap[b20]? = some (.cells CS.toArray 31 (0, 0))) ∧ Hid (wr.heap[b22]? = some (.cells (scF (wantN z Q K (n : Int) k)).toArray 31 (0, 0)))) (fun iv _ => (40 - intOf iv).toNat)
              case atStart => exact ⟨0, by omega, by rfl, HC, HT20, Lib.hid (by have := HT22.out; rw [← HCZ.out] at this; exact this)⟩
              case round =>
                clear HC HT20 HT22
                obtain ⟨k, hk, rfl, HJ, HJ20, HJ22⟩ := hrel
                have hPI : (P.length : Int) = (Q.length : Int) := by rw [HPL.out]
                by_cases hkl : k < Q.length
                · have hkI : (k : Int) < (P.length : Int) := by rw [HPL.out]; omega
                  obtain ⟨pr, hpr⟩ : ∃ pr, P[k]? = some pr := ⟨_, List.getElem?_eq_getElem (by rw [HPL.out]; exact hkl)⟩
                  obtain ⟨q, hq⟩ : ∃ q, Q[k]? = some q := ⟨_, List.getElem?_eq_getElem hkl⟩
                  have hpq1 : pr.1 = q.at_ := by
                    have h1 : (P.map Prod.fst)[k]? = (Q.map Wr.at_)[k]? := by rw [HPQ.out]
                    rw [List.getElem?_map, List.getElem?_map, hpr, hq] at h1
                    exact Option.some.inj h1
                  have hz1 : Z[k]? = some q.s := by rw [HZQ.out, List.getElem?_map, hq]; rfl
                  have hqd : Q.getD k wr0 = q := by rw [List.getD_eq_getElem?_getD, hq]; rfl
                  have hr14 := own_readF prF_len HJ.out.r14 rfl
                  obtain ⟨b14, o14, hs14, hw14⟩ := hr14 (fun e => by rw [e] at hpr; cases hpr)
                  have e0 := hw14 k pr hpr 0 (by decide)
                  have e1 := hw14 k pr hpr 1 (by decide)
                  have d0 : wr.cell? ⟨b14, o14 + k * 2, none⟩ = some (.int .i64 pr.1) := e0
                  have d1 : wr.cell? ⟨b14, o14 + k * 2 + 1, none⟩ = some (.int .i64 pr.2) := e1
                  have hr15 := own_readF scF_len HJ.out.r15 rfl
                  obtain ⟨b15, o15, hs15, hw15⟩ := hr15 (fun e => by rw [e] at hz1; cases hz1)
                  have hrow : wr.rangeAt b15 (o15 + k * 128) (scF q.s) := fun j v hv => by
                    have hj : j < 128 := by have := (List.getElem?_eq_some_iff.1 hv).1; rwa [scF_len] at this
                    exact (hw15 k q.s hz1 j hj).trans hv
                  obtain ⟨CQ, hCQ⟩ : ∃ CQ, scF q.s = CQ := ⟨_, rfl⟩
                  have hcq : CQ.length = 128 := by rw [← hCQ]; exact scF_len q.s
                  have hcq1 : ∀ u ∈ CQ, u.oneCell' = true := by rw [← hCQ]; exact scF_one q.s
                  rw [hCQ] at hrow
                  have HROW := Lib.hid hrow
                  have HCQ := Lib.hid hCQ
                  have HCQL := Lib.hid hcq
                  have HCQ1 := Lib.hid hcq1
                  have HQD := Lib.hid hqd
                  have HPR := Lib.hid hpq1
                  have HS15 := Lib.hid hs15
                  subst hs14
                  clear hpr hq hz1 hqd hr14 hw14 e0 e1 hr15 hw15 hrow hCQ hcq hcq1 hpq1 hs15
                  go_upto_region 39 with fail
                  obtain ⟨p1, p2⟩ := pr
                  dsimp only at HPR d0 d1 ⊢
                  have hbA := (Below.refl wr.heap.size wr).alloc (Nat.le_refl _) (.cells #[.int .i64 p1, .int .i64 p2] 57)
                  have HK := Lib.hid (HJ.out.below' hbA)
                  have HK20 := Lib.hid (old_heap HJ20.out hbA)
                  have HK22 := Lib.hid (old_heap HJ22.out hbA)
                  have HK24 := Lib.hid (heap_alloc_last wr (.cells #[.int .i64 p1, .int .i64 p2] 57 (0, 0)))
                  have HKRW := Lib.hid (range_bel HROW.out hbA)
                  clear hbA HJ HJ20 HJ22 HROW d0 d1
                  revert HK HK20 HK22 HK24 HKRW
                  generalize wr.alloc (.cells #[.int .i64 p1, .int .i64 p2] 57) = wd
                  generalize wr.heap.size = b24
                  intro HK HK20 HK22 HK24 HKRW
                  have w0 : wd.cell? ⟨b24, 0, none⟩ = some (.int .i64 p1) := cell_row HK24.out 0
                  have hno : (p1 ≠ (n : Int) ∨ K.getD k false = false) → Hid (wd.heap[b22]? = some (.cells (scF (wantN z Q K (n : Int) (k + 1))).toArray 31 (0, 0))) := fun h => Lib.hid (by
                    rw [want_no (by rw [HQD.out, ← HPR.out]; exact h)]
                    exact HK22.out)
                  by_cases h1 : p1 = (n : Int)
                  · subst h1
                    by_cases h2 : k < K.length
                    · obtain ⟨bv, hbv⟩ : ∃ b, K[k]? = some b := ⟨_, List.getElem?_eq_getElem h2⟩
                      obtain ⟨kb, ko, hA', hkr⟩ := (HKR.out.below boF_len HK.out.below) (fun e => by rw [e] at hbv; cases hbv)
                      have ck : wd.cell? ⟨kb, ko + k, none⟩ = some (.bool bv) := by
                        have := hkr k bv hbv 0 (by decide)
                        simpa [boF] using this
                      have hkd : K.getD k false = bv := by rw [List.getD_eq_getElem?_getD, hbv]; rfl
                      have h2I : (k : Int) < (K.length : Int) := by omega
                      subst hA'
                      cases bv with
                      | false =>
                        have HN := hno (.inr hkd)
                        clear hno hkr hbv hkd
                        go_wp2
                        exact ⟨⟨k + 1, by omega, by go_num, HK, HK20, HN⟩, by simp [intOf]; omega⟩
                      | true =>
                        have hwy : scF (wantN z Q K (n : Int) (k + 1)) = CQ := by
                          rw [want_yes (by rw [HQD.out, ← HPR.out]) hkd, HQD.out]
                          exact HCQ.out
                        have HWY := Lib.hid hwy
                        have hs15 := HS15.out
                        subst hs15
                        have hkz : k < Z.length := by rw [HZL.out]; exact hkl
                        have hkzI : (k : Int) < (Z.length : Int) := by omega
                        clear hno hkr hbv hkd hwy
                        go_wp2_with (first
                          | (refine wpList_load_mid rfl 31 (.tmp 167) rfl b15 (o15 + k * 128) rfl CQ _ HKRW.out Try.underlying31 rfl (by rw [HCQL.out]; exact size_sec) ?_)
                          | (refine wpList_store_row rfl 31 (.tmp 22) (.tmp 168) rfl b22 _ CQ.toArray 31 rfl rfl HK22.out (by simp only [List.size_toArray]; rw [HCQL.out]; exact size_sec) (by simp [HCQL.out, scF_len]) (all_oneCell_toArray HCQ1.out) ?_))
                        have HKS := Lib.hid (HK.out.keep (keep_setRow wd b22 CQ.toArray) (fun k hk e => by
                          subst e
                          exact Nat.lt_irrefl _ (H15B.out k hk)) (fun k e => by
                          rw [e]
                          have h1 := HK.out.wB
                          have h2 := HK.out.disk.bS
                          have h3 := H15B.out gS (.inl (.inr (.inl rfl)))
                          omega))
                        have HKS20 := Lib.hid ((keep_setRow wd b22 CQ.toArray).heap HK20.out (fun e => by have := HNE.out; omega))
                        have HKS22 := Lib.hid (setRow_heap wd b22 _ CQ.toArray _ _ HK22.out)
                        exact ⟨⟨_, _, _, ⟨k + 1, by omega, by go_num, HKS, HKS20, by rw [HWY.out]; exact HKS22⟩, rfl, rfl, rfl⟩, by simp [intOf]; omega⟩
                    · have hkd : K.getD k false = false := by rw [List.getD_eq_getElem?_getD, List.getElem?_eq_none (by omega)]; rfl
                      have HN := hno (.inr hkd)
                      have h2I : ¬ (k : Int) < (K.length : Int) := by omega
                      clear hno hkd
                      go_wp2
                      exact ⟨⟨k + 1, by omega, by go_num, HK, HK20, HN⟩, by simp [intOf]; omega⟩
                  · have HN := hno (.inl h1)
                    have h1b : (p1 == (n : Int)) = false := by simpa using h1
                    clear hno
                    go_wp2
                    exact ⟨⟨k + 1, by omega, by go_num, HK, HK20, HN⟩, by simp [intOf]; omega⟩
                · have hke : k = Q.length := by omega
                  subst hke
                  have hkI : ¬ ((Q.length : Int) < (P.length : Int)) := by omega
                  have hww : scF (wantN z Q K (n : Int) Q.length) = CS := by rw [HCS.out.1]; exact HCS.out.2
                  have hj22 := HJ22.out
                  rw [hww] at hj22
                  have HJ2 := Lib.hid hj22
                  have hcs : (Value.agg CS.toArray) = secV s.1 := by rw [← HCS.out.2]; rfl
                  have heq : ∀ W, (Op.equalIn 10000 31 (.agg CS.toArray) (.agg CS.toArray)).run Try.prog W = .ok true W := fun W => by
                    obtain ⟨i, hi⟩ := Option.isSome_iff_exists.1 (show (Try.prog.info? 5).isSome = true by kernel_rfl)
                    have h := equal_sec (P := Try.prog) Try.underlying31 hi (by kernel_rfl) (by kernel_rfl) Try.underlying5 W s.1 s.1 s.2 s.2
                    rw [hcs, h]
                    simp
                  clear hww hj22 HJ22 hcs
                  go_wp2_with (first
                    | (refine wpList_load_row rfl 31 (.tmp 20) rfl b20 rfl _ _ _ _ HJ20.out Try.underlying31 rfl (by simp only [List.size_toArray]; rw [HCL.out]; exact size_sec) ?_)
                    | (refine wpList_load_row rfl 31 (.tmp 22) rfl b22 rfl _ _ _ _ HJ2.out Try.underlying31 rfl (by simp only [List.size_toArray]; rw [HCL.out]; exact size_sec) ?_))
                  exact ⟨⟨n + 1, by omega, by go_num, HJ⟩, by simp [intOf]; omega⟩
            · have hn : n = 9 := by omega
              subst hn
              have HDD := Lib.hid (ddead_any HJ.out.disk)
              rw [HD4.out.2.1] at HDD
              have HQQ := Lib.hid (dqueue_any HJ.out.disk (by rw [HD4.out.1]; decide))
              unfold QueTo at HQQ
              rw [HD4.out.1] at HQQ
              clear hlt
              go_wp2_with (first
                | (go_at_call 11; refine HDD.out.mono ?_; rintro e wy ⟨rfl, rfl⟩)
                | (go_at_call 12; refine HQQ.out.mono ?_; rintro e wz ⟨vz, rfl, hoz, hbz⟩; obtain ⟨sz, cz, rfl⟩ := own_slice1 hoz; have HZZ := Lib.hid (bnext HJ.out.below hbz); clear hoz hbz))
              go_ret
              exact ⟨rfl, HZZ.out⟩
#print axioms diskSafe_walk
end Go.Proofs.Ytiehfaiadhhndaa
