/-
  DiskTwins: the walk.
-/
import Derived.Test.YtiehfaiadhhndaaTwC
namespace Go.Proofs.Ytiehfaiadhhndaa
open Go.RowKit
set_option linter.unusedVariables false
set_option linter.unusedSimpArgs false
set_option linter.unnecessarySimpa false
set_option maxRecDepth 100000 in
set_option maxHeartbeats 16000000 in
theorem diskTwins_walk (A0 : Option Addr) (c0' : Nat) (L0 : List Ac) (A1 : Option Addr) (c1' : Nat) (L1 : List Ac) (A2 : Option Addr) (c2'' : Nat) (L2 : List Ac) (w : World) (hL0 : L0.length ≤ 9223372036854775807) (hv0 : ReadAt w A0 acV 4 L0) (hac0 : ∀ a ∈ L0, AcOk w a)
    (hL1 : L1.length ≤ 9223372036854775807) (hv1 : ReadAt w A1 acV 4 L1) (hac1 : ∀ a ∈ L1, AcOk w a) (hL2 : L2.length ≤ 9223372036854775807) (hv2 : ReadAt w A2 acV 4 L2) (hac2 : ∀ a ∈ L2, AcOk w a) :
    Calls Try.prog 7 #[.slice A0 L0.length c0', .slice A1 L1.length c1', .slice A2 L2.length c2''] w (RetT w true) := by
  have HV0 := Lib.hid hv0
  have HACS0 := Lib.hid hac0
  have HV1 := Lib.hid hv1
  have HACS1 := Lib.hid hac1
  have HV2 := Lib.hid hv2
  have HACS2 := Lib.hid hac2
  clear hv0 hac0 hv1 hac1 hv2 hac2
  have HSZ := fun W => Lib.hid (lsized_any (fun _ => False) 7 W (by omega) (fun _ h => h.elim))
  have hz7 : szN 7 = 7 := by decide
  rw [hz7] at HSZ
  clear hz7
  unfold SizedTo rdV at HSZ
  go_enter Try.func7, Try.ntmps7
  go_upto_region 4 with (first
    | (go_at_call 8; go_must (refine (awake03 _).mono ?_; rintro e w1 ⟨rfl, hb1⟩; have HB1 := Lib.hid hb1; clear hb1))
    | (go_at_call 18; go_must (refine (HSZ _).out.mono ?_; rintro e w2 ⟨p, gS, vS2, rfl, hd2, hr2, hb2⟩; obtain ⟨A3, c3, rfl, _⟩ := hr2.secs; have HD2 := Lib.hid (hd2.low HB1.out.size); have HR2 := Lib.hid hr2; have HB2 := Lib.hid (bnext HB1.out hb2); clear hd2 hr2 hb2)))
  have hsz2 := HB2.out.size
  have hbA : Below w2.heap.size w2 (w2.alloc (.cells (dskB (dk0 7) (.slice A3 (dk0 7).S.length c3) (.slice none 0 0)) 43)) := (Below.refl _ w2).alloc (Nat.le_refl _) _
  have hst : PlSt w p gS w2.heap.size 7 0 (.slice none 0 0) (.slice A3 (dk0 7).S.length c3) (.slice none 0 0) (dk0 7) (w2.alloc (.cells (dskB (dk0 7) (.slice A3 (dk0 7).S.length c3) (.slice none 0 0)) 43)) := by
    have hl : (dk0 7).S.length = 7 := by simp [dk0]
    have hr := HR2.out
    refine ⟨HD2.out.below hbA, (hr.foot (fun b hb hf => by rcases hf with hf | hf; exact .inl hf; omega)).below hbA, ⟨by simp [dk0], by simp [dk0], by simp [dk0], by simp [dk0]⟩, hl, new_heap w2 _, bnext HB2.out hbA, fun e => by have := Ft.lt HD2.out _ e; omega⟩
  have hp6w : w.heap.size ≤ w2.heap.size := hsz2
  unfold dskB at hst
  clear hbA HD2 HR2 HB2 HSZ HB1 hsz2
  revert hst hp6w
  generalize w2.alloc (.cells #[.slice A3 (dk0 7).S.length c3, .slice none 0 0, .bool (dk0 7).dead, .int .i64 (dk0 7).arm, .int .i64 (dk0 7).deeds] 43) = w3
  generalize w2.heap.size = b8
  intro hst hp6w
  have HST := Lib.hid hst
  clear hst
  go_upto_block 0 with fail
  go_cut [] (fun wc => Hid (∃ vq vS vQ D k, k ≤ 20 ∧ PlSt w p gS b8 7 k vq vS vQ D wc))
  case first =>
   go_wp2
   go_loopw [9] (fun i wr => ∃ k : Nat, k ≤ L0.length ∧ k ≤ 20 ∧ i = .int .i64 (k : Int) ∧ Hid (∃ vq vS vQ D, PlSt w p gS b8 7 k vq vS vQ D wr)) (fun i _ => (20 - intOf i).toNat)
   case atStart => exact ⟨0, by omega, by omega, by rfl, Lib.hid ⟨_, _, _, _, HST.out⟩⟩
   case round =>
    obtain ⟨j, hj, hj40, rfl, HJ⟩ := hrel
    obtain ⟨vq, vS, vQ, D, hs⟩ := HJ.out
    have HS := Lib.hid hs
    by_cases hgo : j < L0.length ∧ j < 20
    · obtain ⟨hlt, h40⟩ := hgo
      have hlt' : (j : Int) < (L0.length : Int) := by omega
      have h40' : (j : Int) < 20 := by omega
      clear HST HJ
      obtain ⟨a, haj⟩ : ∃ a, L0[j]? = some a := ⟨_, List.getElem?_eq_getElem hlt⟩
      obtain ⟨ab, ao, rfl, hrow⟩ := HV0.out (fun e => by rw [e] at hlt; exact absurd hlt (Nat.not_lt_zero _))
      have hac := HACS0.out a (List.mem_of_getElem? haj)
      have HAC := Lib.hid hac
      have c0 := hrow j a haj 0 (by decide)
      have c1 := hrow j a haj 1 (by decide)
      have c2' := hrow j a haj 2 (by decide)
      have c3 := hrow j a haj 3 (by decide)
      have hab : ab < w.heap.size := World.block_lt_of_cell? w _ c0
      have hbw := hs.below
      have HBw := Lib.hid hbw
      have d0 := (hbw.cell (p := ⟨ab, ao + j * 4 + 0, none⟩) hab).trans c0
      have d1 := (hbw.cell (p := ⟨ab, ao + j * 4 + 1, none⟩) hab).trans c1
      have d2 := (hbw.cell (p := ⟨ab, ao + j * 4 + 2, none⟩) hab).trans c2'
      have d3 := (hbw.cell (p := ⟨ab, ao + j * 4 + 3, none⟩) hab).trans c3
      obtain ⟨AS, cS, rfl, _⟩ := hs.ref.secs
      obtain ⟨AQ, cQ, rfl, _⟩ := hs.ref.que
      have hS7 : S4 ab (ao + j * 4) a wr := ⟨d0, d1, d2, d3⟩
      have hbx := hs.box
      have k0 : wr.cell? ⟨b8, 0, none⟩ = some (.slice AS D.S.length cS) := cell_row hbx 0; have k1 : wr.cell? ⟨b8, 1, none⟩ = some (.slice AQ D.Q.length cQ) := cell_row hbx 1; have k2 : wr.cell? ⟨b8, 2, none⟩ = some (.bool D.dead) := cell_row hbx 2; have k3 : wr.cell? ⟨b8, 3, none⟩ = some (.int .i64 D.arm) := cell_row hbx 3; have k4 : wr.cell? ⟨b8, 4, none⟩ = some (.int .i64 D.deeds) := cell_row hbx 4
      have HS7 := Lib.hid hS7
      have hge := Ft.ge hs.disk
      have hnb := hs.n6
      have hwb := hp6w
      have hm9 : j ≤ 900 := by omega
      have hS1 : 1 ≤ D.S.length := by rw [hs.len]; decide
      have hS6 : D.S.length ≤ 65536 := by rw [hs.len]; decide
      have hok := hs.ok
      have hj0 : (0 : Int) ≤ (j : Int) := by omega
      have hbl : b8 < wr.heap.size := (Array.getElem?_eq_some_iff.1 hs.box).1
      have hboxe := hs.box
      have HBOX := Lib.hid hboxe
      have hwc : Below wr.heap.size wr wr.drew := (Below.refl _ wr).drew
      have HDO := Lib.hid (ldo_any (X := fun k => k = b8) (hs.disk.below hwc) (hs.ref.below hwc) (fun k e => by subst e; exact Nat.lt_of_lt_of_le hbl hwc.size) hm9 hok hS1 hS6 a HAC.out (hbw.trans (hwc.mono hbw.size)))
      unfold rdV acV at HDO
      obtain ⟨hoA, hlA⟩ := actD_ok hok HAC.out
      have HLA := Lib.hid (hlA.trans hs.len)
      clear hbx hrow haj c0 c1 c2' c3 d0 d1 d2 d3 hbw hS7 hac hboxe hwc hs hlA
      go_upto_region 7 with fail
      refine wp_region_held_drew (S := (S4 ab (ao + j * 4) a)) (by kernel_rfl) (by exact HS7.out) (fun hHeld => ?_)
      refine take1_ (i := 0) (v := ?_) (a' := ?_) (some 34) #[true, false, false, false, false, false, false, false, false, false, false] rfl rfl (by kernel_rfl) (fun _ _ _ h => h) (Or.inl ⟨by rfl, ?_⟩) hHeld ?_ ?_
      rotate_left
      · (intro w hSw; (try dsimp only at hSw); obtain ⟨s6, s7, s8, s9⟩ := hSw; go_simp; (try with_reducible rfl))
      rotate_left
      · simp only [Act.put, List.setIfInBounds_toArray, List.set_cons_zero, List.set_cons_succ]
        rfl
      refine take1_ (i := 2) (v := ?_) (a' := ?_) (some 36) #[true, false, true, false, false, false, false, false, false, false, false] rfl rfl (by kernel_rfl) (fun _ _ _ h => h) (Or.inl ⟨by rfl, ?_⟩) hHeld ?_ ?_
      rotate_left
      · (intro w hSw; (try dsimp only at hSw); obtain ⟨s6, s7, s8, s9⟩ := hSw; go_simp; (try with_reducible rfl))
      rotate_left
      · simp only [Act.put, List.setIfInBounds_toArray, List.set_cons_zero, List.set_cons_succ]
        rfl
      refine take1_ (i := 3) (v := ?_) (a' := ?_) (some 37) #[true, false, true, true, false, false, false, false, false, false, false] rfl rfl (by kernel_rfl) (fun _ _ _ h => h) (Or.inl ⟨by rfl, ?_⟩) hHeld ?_ ?_
      rotate_left
      · (intro w hSw; (try dsimp only at hSw); obtain ⟨s6, s7, s8, s9⟩ := hSw; go_simp; (try with_reducible rfl))
      rotate_left
      · simp only [Act.put, List.setIfInBounds_toArray, List.set_cons_zero, List.set_cons_succ]
        rfl
      refine take1_ (i := 4) (v := ?_) (a' := ?_) (some 38) #[true, false, true, true, true, false, false, false, false, false, false] rfl rfl (by kernel_rfl) (fun _ _ _ h => h) (Or.inl ⟨by rfl, ?_⟩) hHeld ?_ ?_
      rotate_left
      · (intro w hSw; (try dsimp only at hSw); obtain ⟨s6, s7, s8, s9⟩ := hSw; go_simp; (try with_reducible rfl))
      rotate_left
      · simp only [Act.put, List.setIfInBounds_toArray, List.set_cons_zero, List.set_cons_succ]
        rfl
      refine take1_ (i := 5) (v := ?_) (a' := ?_) (some 39) #[true, false, true, true, true, true, false, false, false, false, false] rfl rfl (by kernel_rfl) (fun _ _ _ h => h) (Or.inl ⟨by rfl, ?_⟩) hHeld ?_ ?_
      rotate_left
      · (intro w hSw; (try dsimp only at hSw); obtain ⟨s6, s7, s8, s9⟩ := hSw; go_simp; (try with_reducible rfl))
      rotate_left
      · simp only [Act.put, List.setIfInBounds_toArray, List.set_cons_zero, List.set_cons_succ]
        rfl
      refine loud1_ (i := 1) (some 35) #[true, true, true, true, true, true, false, false, false, false, false] rfl rfl (by kernel_rfl) (fun K hK => ?_)
      go_simp
      skip
      refine hK.out _ _ (by (first | with_reducible exact hnx | with_reducible exact hHeld | exact hnx.keep tape_set5 hneb)) (fun hHeld' => ?_)
      clear hK K hHeld
      have hHeld := hHeld'
      clear hHeld'
      try simp only [Act.put, List.setIfInBounds_toArray, List.set_cons_zero, List.set_cons_succ]
      refine loud1_ (i := 6) (some 40) #[true, true, true, true, true, true, true, false, false, false, false] rfl rfl (by kernel_rfl) (fun K hK => ?_)
      go_simp
      (go_at_call 19; refine HDO.out.mono ?_; rintro e w7 ⟨vq7, vS7, vQ7, rfl, hde⟩; obtain ⟨A8, c8, rfl, _⟩ := hde.ref.secs; obtain ⟨A9, c9, rfl, _⟩ := hde.ref.que; unfold rdV; have HDE := Lib.hid hde; have hnx : S4 ab (ao + j * 4) a w7 := HS7.out.keep ((Keep.of_below ((Below.refl _ wr).drew)).trans hde.keep) (fun e => by have := hge ab e; omega); clear k0 k1 k2 k3 k4; have hneb : ¬ ab = b8 := (by omega); have h6 := hde.keep.heap (old_heap HBOX.out ((Below.refl _ wr).drew)) hnb; have n0 : w7.cell? ⟨b8, 0, none⟩ = some (.slice AS D.S.length cS) := cell_row h6 0; have n1 : w7.cell? ⟨b8, 1, none⟩ = some (.slice AQ D.Q.length cQ) := cell_row h6 1; have n2 : w7.cell? ⟨b8, 2, none⟩ = some (.bool D.dead) := cell_row h6 2; have n3 : w7.cell? ⟨b8, 3, none⟩ = some (.int .i64 D.arm) := cell_row h6 3; have n4 : w7.cell? ⟨b8, 4, none⟩ = some (.int .i64 D.deeds) := cell_row h6 4; have m0 := free_row h6 0; have m1 := free_row h6 1; have m2 := free_row h6 2; have m3 := free_row h6 3; have m4 := free_row h6 4; clear h6 hde)
      refine hK.out _ _ (by (first | with_reducible exact hnx | with_reducible exact hHeld | exact hnx.keep tape_set5 hneb)) (fun hHeld' => ?_)
      clear hK K hHeld
      have hHeld := hHeld'
      clear hHeld'
      try simp only [Act.put, List.setIfInBounds_toArray, List.set_cons_zero, List.set_cons_succ]
      refine take1_ (i := 7) (v := ?_) (a' := ?_) (some 33) #[true, true, true, true, true, true, true, true, false, false, false] rfl rfl (by kernel_rfl) (fun _ _ _ h => h) (Or.inl ⟨by rfl, ?_⟩) hHeld ?_ ?_
      rotate_left
      · (intro w hSw; (try dsimp only at hSw); obtain ⟨s6, s7, s8, s9⟩ := hSw; go_simp; (try with_reducible rfl))
      rotate_left
      · simp only [Act.put, List.setIfInBounds_toArray, List.set_cons_zero, List.set_cons_succ]
        rfl
      refine take1_ (i := 8) (v := ?_) (a' := ?_) (some 41) #[true, true, true, true, true, true, true, true, true, false, false] rfl rfl (by kernel_rfl) (fun _ _ _ h => h) (Or.inl ⟨by rfl, ?_⟩) hHeld ?_ ?_
      rotate_left
      · (intro w hSw; (try dsimp only at hSw); obtain ⟨s6, s7, s8, s9⟩ := hSw; go_simp; (try with_reducible rfl))
      rotate_left
      · simp only [Act.put, List.setIfInBounds_toArray, List.set_cons_zero, List.set_cons_succ]
        rfl
      refine take1_ (i := 9) (v := ?_) (a' := ?_) (some 42) #[true, true, true, true, true, true, true, true, true, true, false] rfl rfl (by kernel_rfl) (fun _ _ _ h => h) (Or.inl ⟨by rfl, ?_⟩) hHeld ?_ ?_
      rotate_left
      · (intro w hSw; (try dsimp only at hSw); obtain ⟨s6, s7, s8, s9⟩ := hSw; go_simp; (try with_reducible rfl))
      rotate_left
      · simp only [Act.put, List.setIfInBounds_toArray, List.set_cons_zero, List.set_cons_succ]
        rfl
      refine loud1_ (i := 10) (none) #[true, true, true, true, true, true, true, true, true, true, true] rfl rfl (by kernel_rfl) (fun K hK => ?_)
      go_simp
      (rw [← set5])
      refine hK.out _ _ (by (first | with_reducible exact hnx | with_reducible exact hHeld | exact hnx.keep tape_set5 hneb)) (fun hHeld' => ?_)
      clear hK K hHeld
      have hHeld := hHeld'
      clear hHeld'
      try simp only [Act.put, List.setIfInBounds_toArray, List.set_cons_zero, List.set_cons_succ]
      refine wpAnyH_done (by kernel_rfl) ?_ _
      
      have hnxt := HS.out.step HDE.out ((Below.refl _ wr).drew) hoA HLA.out hp6w
      clear HDO HBOX HS7 HAC HBw hge hok hS1 hS6 m0 m1 m2 m3 m4 hbl
      revert hnxt
      generalize set5 w7 b8 (.slice A8 (actD D a).S.length c8) (.slice A9 (actD D a).Q.length c9) (.bool (actD D a).dead) (.int .i64 (actD D a).arm) (.int .i64 (actD D a).deeds) = w9
      intro hnxt
      have HN := Lib.hid hnxt
      clear hnxt HDE HLA hoA hHeld
      go_wp2
      exact ⟨⟨j + 1, by omega, by omega, by go_num, Lib.hid ⟨_, _, _, _, HN.out⟩⟩, by simp [intOf]; omega⟩
    · have hor : ∀ {G : Prop}, ((j : Int) < (L0.length : Int) → ¬ (j : Int) < 20 → G) → (¬ (j : Int) < (L0.length : Int) → G) → G := fun h1 h2 => by
        by_cases h : (j : Int) < (L0.length : Int)
        · exact h1 h (by omega)
        · exact h2 h
      clear hs
      refine hor (fun hj1 hj2 => ?_) (fun hj1 => ?_)
      all_goals
        clear hor hgo
        go_wp2
        go_meet
        case rel => exact Lib.hid ⟨_, _, _, _, j, hj40, HS.out⟩
  case rest =>
    obtain ⟨vq, vS, vQ, D, k, hk20, hs⟩ := hcut.out
    obtain ⟨wr, hwr⟩ : ∃ wr, wr = wc := ⟨_, rfl⟩
    rw [← hwr] at hs ⊢
    clear hwr hcut
    obtain ⟨AS, cS, rfl, _⟩ := hs.ref.secs
    obtain ⟨AQ, cQ, rfl, _⟩ := hs.ref.que
    have HS := Lib.hid hs
    have hS1 : 1 ≤ D.S.length := by rw [hs.len]; decide
    have hbl : b8 < wr.heap.size := (Array.getElem?_eq_some_iff.1 hs.box).1
    have hb8 := hs.box
    have HS20 : Hid (R20S b8 #[.slice AS D.S.length cS, .slice AQ D.Q.length cQ, .bool D.dead, .int .i64 D.arm, .int .i64 D.deeds] wr) := Lib.hid ⟨cell_row hb8 0, cell_row hb8 1, cell_row hb8 2, cell_row hb8 3, cell_row hb8 4⟩
    clear hs hb8 HST
    go_upto_region 8 with fail
    go_cut [10, 11] (fun t d wc => ∃ p' b11, t = .pointer (some ⟨p', 0, none⟩) ∧ d = .pointer (some ⟨b11, 0, none⟩) ∧ Hid (∃ gS' vq' cp, TwSt w p gS b8 p' gS' b11 7 k k vq (.slice AS D.S.length cS) (.slice AQ D.Q.length cQ) D vq' (.slice AS D.S.length cS) (.slice AQ D.Q.length cQ) { D with cap := cp } wc))
    case first =>
      have hbd := (Below.refl wr.heap.size wr).drew
      refine wp_region_F (S := (R20S b8 #[.slice AS D.S.length cS, .slice AQ D.Q.length cQ, .bool D.dead, .int .i64 D.arm, .int .i64 D.deeds])) 5 (by kernel_rfl) (by exact HS20.out) (fun hHeld => ?_)
      refine take1F (i := 0) (v := ?_) (a' := ?_) (some 43) #[true, false, false, false, false, false] rfl rfl (by kernel_rfl) (fun _ _ _ h => h) (Or.inl ⟨by rfl, ?_⟩) hHeld ?_ ?_
      rotate_left
      · (intro w hSw; (try dsimp only at hSw); obtain ⟨s1, s2, s3, s4, s5⟩ := hSw; go_simp; (try with_reducible rfl))
      rotate_left
      · simp only [Act.put, List.setIfInBounds_toArray, List.set_cons_zero, List.set_cons_succ]
        rfl
      refine take1F (i := 2) (v := ?_) (a' := ?_) (some 45) #[true, false, true, false, false, false] rfl rfl (by kernel_rfl) (fun _ _ _ h => h) (Or.inl ⟨by rfl, ?_⟩) hHeld ?_ ?_
      rotate_left
      · (intro w hSw; (try dsimp only at hSw); obtain ⟨s1, s2, s3, s4, s5⟩ := hSw; go_simp; (try with_reducible rfl))
      rotate_left
      · simp only [Act.put, List.setIfInBounds_toArray, List.set_cons_zero, List.set_cons_succ]
        rfl
      revert hHeld hbd
      generalize wr.drew = wd
      intro hbd hHeld
      refine fork2F (i := 1) (j := 3) (some 44) (some 11) #[true, true, true, false, false, false] #[true, false, true, true, false, false] rfl rfl rfl rfl (by kernel_rfl) (fun K hK => ?_) (fun K hK => ?_)
      · go_simp
        have hbc : Below wr.heap.size wr wd := hbd
        have HTW := Lib.hid (dtwin_any (HS.out.disk.below hbc) hS1 (by rw [HS.out.len]; decide) (by have := HS.out.ok.len; omega))
        unfold TwinTo at HTW
        go_at_call 23
        refine HTW.out.mono ?_
        rintro e wt ⟨p', gS', vq', cp, rfl, hdt, hbt⟩
        have HDT := Lib.hid hdt
        have HBT := Lib.hid hbt
        have hnx := hHeld.move (hbt.block _ (Nat.lt_of_lt_of_le hbl hbc.size))
        clear hdt hbt HTW
        refine hK.out _ _ hnx (fun hHeld' => ?_)
        clear hK K hHeld hnx
        have hHeld := hHeld'
        clear hHeld'
        (try simp only [Act.put, List.setIfInBounds_toArray, List.set_cons_zero, List.set_cons_succ])
        refine loud1F (i := 3) (some 11) #[true, true, true, true, false, false] rfl rfl (by kernel_rfl) (fun K hK => ?_)
        go_simp
        have hbA := (Below.refl wt.heap.size wt).alloc (Nat.le_refl _) (.cells #[.slice none 0 0, .slice none 0 0, .bool false, .int .i64 0, .int .i64 0] 43)
        have H11 := Lib.hid (new_heap wt (.cells #[.slice none 0 0, .slice none 0 0, .bool false, .int .i64 0, .int .i64 0] 43 (0, 0)))
        have hnx := hHeld.move (hbA.block _ (Nat.lt_of_lt_of_le hbl (Nat.le_trans hbc.size HBT.out.size)))
        have hn11 : ¬ Ft p' gS' vq' wt.heap.size := fun e => by have := Ft.lt HDT.out _ e; omega
        have HD11 := Lib.hid (HDT.out.below hbA)
        have HB11 := Lib.hid ((hbc.trans (HBT.out.mono hbc.size)).trans (hbA.mono (Nat.le_trans hbc.size HBT.out.size)))
        have hb11 : wr.heap.size ≤ wt.heap.size := Nat.le_trans hbc.size HBT.out.size
        have hbase : wr.heap.size ≤ wd.heap.size := hbc.size
        clear hbA HDT HBT hbc hbd
        revert H11 hnx hK hn11 HD11 HB11 hb11 hbase
        generalize wt.alloc (.cells #[.slice none 0 0, .slice none 0 0, .bool false, .int .i64 0, .int .i64 0] 43) = we
        generalize wt.heap.size = b11
        generalize wd.heap.size = bs
        intro hK H11 hnx hn11 HD11 HB11 hb11 hbase
        refine hK.out _ _ hnx (fun hHeld' => ?_)
        clear hK K hHeld hnx
        have hHeld := hHeld'
        clear hHeld'
        (try simp only [Act.put, List.setIfInBounds_toArray, List.set_cons_zero, List.set_cons_succ])
        refine loud1F (i := 4) (some 10) #[true, true, true, true, true, false] rfl rfl (by kernel_rfl) (fun K hK => ?_)
        go_simp
        have hnx := hHeld
        refine hK.out _ _ hnx (fun hHeld' => ?_)
        clear hK K hHeld hnx
        have hHeld := hHeld'
        clear hHeld'
        (try simp only [Act.put, List.setIfInBounds_toArray, List.set_cons_zero, List.set_cons_succ])
        refine last1F none #[true, true, true, true, true, true] rfl rfl (by kernel_rfl) (fun K hK => ?_)
        have h11 := H11.out
        have n0 : we.cell? ⟨b11, 0, none⟩ = some (.slice none 0 0) := cell_row h11 0; have n1 : we.cell? ⟨b11, 1, none⟩ = some (.slice none 0 0) := cell_row h11 1; have n2 : we.cell? ⟨b11, 2, none⟩ = some (.bool false) := cell_row h11 2; have n3 : we.cell? ⟨b11, 3, none⟩ = some (.int .i64 0) := cell_row h11 3; have n4 : we.cell? ⟨b11, 4, none⟩ = some (.int .i64 0) := cell_row h11 4
        have m0 := free_row h11 0; have m1 := free_row h11 1; have m2 := free_row h11 2; have m3 := free_row h11 3; have m4 := free_row h11 4
        go_simp
        rw [← set5]
        refine hK.out _ _ ?_
        clear hK K hHeld h11 n0 n1 n2 n3 n4 m0 m1 m2 m3 m4
        (try simp only [Act.put, List.setIfInBounds_toArray, List.set_cons_zero, List.set_cons_succ])
        refine wpAnyF_done (by kernel_rfl) ?_ _
        have hinit := TwSt.init (a1 := .slice none 0 0) (a2 := .slice none 0 0) (a3 := .bool false) (a4 := .int .i64 0) (a5 := .int .i64 0) HS.out HB11.out HD11.out hbase hb11 hn11 H11.out hp6w
        have HI := Lib.hid hinit
        clear hinit
        go_wp2_with fail
        go_meet
        case rel => exact ⟨_, _, rfl, rfl, Lib.hid ⟨_, _, _, HI.out⟩⟩
      · go_simp
        have hbA := (Below.refl wd.heap.size wd).alloc (Nat.le_refl _) (.cells #[.slice none 0 0, .slice none 0 0, .bool false, .int .i64 0, .int .i64 0] 43)
        have H11 := Lib.hid (new_heap wd (.cells #[.slice none 0 0, .slice none 0 0, .bool false, .int .i64 0, .int .i64 0] 43 (0, 0)))
        have hnx := hHeld.move (hbA.block _ (Nat.lt_of_lt_of_le hbl hbd.size))
        have hbd' := hbd.trans (hbA.mono hbd.size)
        have hb11 : wr.heap.size ≤ wd.heap.size := hbd.size
        have hl11 : wd.heap.size < (wd.alloc (.cells #[.slice none 0 0, .slice none 0 0, .bool false, .int .i64 0, .int .i64 0] 43)).heap.size := by simp
        clear hbA hbd
        revert H11 hnx hK hbd' hb11 hl11
        generalize wd.alloc (.cells #[.slice none 0 0, .slice none 0 0, .bool false, .int .i64 0, .int .i64 0] 43) = wg
        generalize wd.heap.size = b11
        intro hK H11 hnx hbd hb11 hl11
        refine hK.out _ _ hnx (fun hHeld' => ?_)
        clear hK K hHeld hnx
        have hHeld := hHeld'
        clear hHeld'
        (try simp only [Act.put, List.setIfInBounds_toArray, List.set_cons_zero, List.set_cons_succ])
        refine loud1F (i := 1) (some 44) #[true, true, true, true, false, false] rfl rfl (by kernel_rfl) (fun K hK => ?_)
        go_simp
        have hbc : Below wr.heap.size wr wg := hbd
        have HTW := Lib.hid (dtwin_any (HS.out.disk.below hbc) hS1 (by rw [HS.out.len]; decide) (by have := HS.out.ok.len; omega))
        unfold TwinTo at HTW
        go_at_call 23
        refine HTW.out.mono ?_
        rintro e wt ⟨p', gS', vq', cp, rfl, hdt, hbt⟩
        have HDT := Lib.hid hdt
        have HBT := Lib.hid hbt
        have hnx := hHeld.move (hbt.block _ (Nat.lt_of_lt_of_le hbl hbc.size))
        clear hdt hbt HTW
        have hn11 : ¬ Ft p' gS' vq' b11 := fun e => by have := Ft.ge HDT.out _ e; omega
        have HD11 := HDT
        have HB11 := Lib.hid (hbc.trans (HBT.out.mono hbc.size))
        have hbase : wr.heap.size ≤ wg.heap.size := hbc.size
        have H11' := Lib.hid (old_heap H11.out HBT.out)
        clear H11
        have H11 := H11'
        clear H11' HDT HBT hbc hbd
        revert hbase HD11
        generalize wg.heap.size = bs
        intro HD11 hbase
        refine hK.out _ _ hnx (fun hHeld' => ?_)
        clear hK K hHeld hnx
        have hHeld := hHeld'
        clear hHeld'
        (try simp only [Act.put, List.setIfInBounds_toArray, List.set_cons_zero, List.set_cons_succ])
        refine loud1F (i := 4) (some 10) #[true, true, true, true, true, false] rfl rfl (by kernel_rfl) (fun K hK => ?_)
        go_simp
        have hnx := hHeld
        refine hK.out _ _ hnx (fun hHeld' => ?_)
        clear hK K hHeld hnx
        have hHeld := hHeld'
        clear hHeld'
        (try simp only [Act.put, List.setIfInBounds_toArray, List.set_cons_zero, List.set_cons_succ])
        refine last1F none #[true, true, true, true, true, true] rfl rfl (by kernel_rfl) (fun K hK => ?_)
        have h11 := H11.out
        have n0 : wt.cell? ⟨b11, 0, none⟩ = some (.slice none 0 0) := cell_row h11 0; have n1 : wt.cell? ⟨b11, 1, none⟩ = some (.slice none 0 0) := cell_row h11 1; have n2 : wt.cell? ⟨b11, 2, none⟩ = some (.bool false) := cell_row h11 2; have n3 : wt.cell? ⟨b11, 3, none⟩ = some (.int .i64 0) := cell_row h11 3; have n4 : wt.cell? ⟨b11, 4, none⟩ = some (.int .i64 0) := cell_row h11 4
        have m0 := free_row h11 0; have m1 := free_row h11 1; have m2 := free_row h11 2; have m3 := free_row h11 3; have m4 := free_row h11 4
        go_simp
        rw [← set5]
        refine hK.out _ _ ?_
        clear hK K hHeld h11 n0 n1 n2 n3 n4 m0 m1 m2 m3 m4
        (try simp only [Act.put, List.setIfInBounds_toArray, List.set_cons_zero, List.set_cons_succ])
        refine wpAnyF_done (by kernel_rfl) ?_ _
        have hinit := TwSt.init (a1 := .slice none 0 0) (a2 := .slice none 0 0) (a3 := .bool false) (a4 := .int .i64 0) (a5 := .int .i64 0) HS.out HB11.out HD11.out hbase hb11 hn11 H11.out hp6w
        have HI := Lib.hid hinit
        clear hinit
        go_wp2_with fail
        go_meet
        case rel => exact ⟨_, _, rfl, rfl, Lib.hid ⟨_, _, _, HI.out⟩⟩
    case rest =>
      obtain ⟨p', b11, rfl, rfl, hcut⟩ := hcut
      obtain ⟨gS', vq', cp, hs⟩ := hcut.out
      obtain ⟨wr, hwr⟩ : ∃ wr, wr = wc := ⟨_, rfl⟩
      rw [← hwr] at hs ⊢
      clear hwr hcut HS20 hbl HS
      have HS := Lib.hid hs
      have hl9 : D.S.length ≤ 65536 := by rw [hs.len]; decide
      have hq9 : D.Q.length ≤ 1000 := by have := hs.ok.len; omega
      have HSM1 := Lib.hid (dsame_any hs.disk hs.disk' hl9 hq9)
      have HSM2 := fun n => Lib.hid (dsame_any (hs.disk'.drewN n) (hs.disk.drewN n) hl9 hq9)
      rw [sameD_self] at HSM1
      simp only [sameD_self'] at HSM2
      clear hs
      go_upto_region 11 with (first
        | (go_at_call 24; with_reducible refine HSM1.out.mono ?_; rintro e w' ⟨rfl, n1, rfl⟩)
        | (go_at_call 24; with_reducible refine (HSM2 _).out.mono ?_; rintro e w' ⟨rfl, n2, rfl⟩))
      have hs2 := HS.out.drewN (n1 + n2)
      revert hs2
      generalize wr.drewN (n1 + n2) = wt
      intro hs2
      have HST := Lib.hid hs2
      clear hs2 HSM1 HSM2 HS hl9 hq9 hS1
      go_upto_block 2 with fail
      go_cut [] (fun wc => Hid (∃ vq vS vQ D m m' vq' vS' vQ' E, m ≤ 40 ∧ m' ≤ 20 ∧ TwSt w p gS b8 p' gS' b11 7 m m' vq vS vQ D vq' vS' vQ' E wc))
      case first =>
       go_wp2
       go_loopw [12] (fun i wr => ∃ j : Nat, j ≤ L1.length ∧ j ≤ 12 ∧ i = .int .i64 (j : Int) ∧ Hid (∃ vq vS vQ D vq' vS' vQ' E, TwSt w p gS b8 p' gS' b11 7 (k + j) k vq vS vQ D vq' vS' vQ' E wr)) (fun i _ => (12 - intOf i).toNat)
       case atStart => exact ⟨0, by omega, by omega, by rfl, Lib.hid ⟨_, _, _, _, _, _, _, _, HST.out⟩⟩
       case round =>
        obtain ⟨j, hj, hj40, rfl, HJ⟩ := hrel
        obtain ⟨vq, vS, vQ, D, vq', vS', vQ', E, hs⟩ := HJ.out
        have HS := Lib.hid hs
        by_cases hgo : j < L1.length ∧ j < 12
        · obtain ⟨hlt, h40⟩ := hgo
          have hlt' : (j : Int) < (L1.length : Int) := by omega
          have h40' : (j : Int) < 12 := by omega
          clear HST HJ
          obtain ⟨a, haj⟩ : ∃ a, L1[j]? = some a := ⟨_, List.getElem?_eq_getElem hlt⟩
          obtain ⟨ab, ao, rfl, hrow⟩ := HV1.out (fun e => by rw [e] at hlt; exact absurd hlt (Nat.not_lt_zero _))
          have hac := HACS1.out a (List.mem_of_getElem? haj)
          have HAC := Lib.hid hac
          have c0 := hrow j a haj 0 (by decide)
          have c1 := hrow j a haj 1 (by decide)
          have c2' := hrow j a haj 2 (by decide)
          have c3 := hrow j a haj 3 (by decide)
          have hab : ab < w.heap.size := World.block_lt_of_cell? w _ c0
          have hbw := hs.below
          have HBw := Lib.hid hbw
          have d0 := (hbw.cell (p := ⟨ab, ao + j * 4 + 0, none⟩) hab).trans c0
          have d1 := (hbw.cell (p := ⟨ab, ao + j * 4 + 1, none⟩) hab).trans c1
          have d2 := (hbw.cell (p := ⟨ab, ao + j * 4 + 2, none⟩) hab).trans c2'
          have d3 := (hbw.cell (p := ⟨ab, ao + j * 4 + 3, none⟩) hab).trans c3
          obtain ⟨AS, cS, rfl, _⟩ := hs.ref.secs
          obtain ⟨AQ, cQ, rfl, _⟩ := hs.ref.que
          have hS7 : S4 ab (ao + j * 4) a wr := ⟨d0, d1, d2, d3⟩
          have hbx := hs.box
          have k0 : wr.cell? ⟨b8, 0, none⟩ = some (.slice AS D.S.length cS) := cell_row hbx 0; have k1 : wr.cell? ⟨b8, 1, none⟩ = some (.slice AQ D.Q.length cQ) := cell_row hbx 1; have k2 : wr.cell? ⟨b8, 2, none⟩ = some (.bool D.dead) := cell_row hbx 2; have k3 : wr.cell? ⟨b8, 3, none⟩ = some (.int .i64 D.arm) := cell_row hbx 3; have k4 : wr.cell? ⟨b8, 4, none⟩ = some (.int .i64 D.deeds) := cell_row hbx 4
          have HS7 := Lib.hid hS7
          have hge := Ft.ge hs.disk
          have hnb := hs.nb
          have hwb := hs.hb
          have hm9 : k + j ≤ 900 := by omega
          have hS1 : 1 ≤ D.S.length := by rw [hs.len]; decide
          have hS6 : D.S.length ≤ 65536 := by rw [hs.len]; decide
          have hok := hs.ok
          have hj0 : (0 : Int) ≤ (j : Int) := by omega
          have hbl : b8 < wr.heap.size := (Array.getElem?_eq_some_iff.1 hs.box).1
          have hboxe := hs.box
          have HBOX := Lib.hid hboxe
          have hwc : Below wr.heap.size wr wr.drew := (Below.refl _ wr).drew
          have HDO := Lib.hid (ldo_any (X := twX p' gS' b8 b11 vq') (hs.disk.below hwc) (hs.refX hwc) (hs.ltX hwc) hm9 hok hS1 hS6 a HAC.out (hbw.trans (hwc.mono hbw.size)))
          unfold rdV acV at HDO
          obtain ⟨hoA, hlA⟩ := actD_ok hok HAC.out
          have HLA := Lib.hid (hlA.trans hs.len)
          clear hbx hrow haj c0 c1 c2' c3 d0 d1 d2 d3 hbw hS7 hac hboxe hwc hs hlA
          go_upto_region 14 with fail
          refine wp_region_held_drew (S := (S4 ab (ao + j * 4) a)) (by kernel_rfl) (by exact HS7.out) (fun hHeld => ?_)
          refine take1_ (i := 0) (v := ?_) (a' := ?_) (some 67) #[true, false, false, false, false, false, false, false, false, false, false] rfl rfl (by kernel_rfl) (fun _ _ _ h => h) (Or.inl ⟨by rfl, ?_⟩) hHeld ?_ ?_
          rotate_left
          · (intro w hSw; (try dsimp only at hSw); obtain ⟨s6, s7, s8, s9⟩ := hSw; go_simp; (try with_reducible rfl))
          rotate_left
          · simp only [Act.put, List.setIfInBounds_toArray, List.set_cons_zero, List.set_cons_succ]
            rfl
          refine take1_ (i := 2) (v := ?_) (a' := ?_) (some 69) #[true, false, true, false, false, false, false, false, false, false, false] rfl rfl (by kernel_rfl) (fun _ _ _ h => h) (Or.inl ⟨by rfl, ?_⟩) hHeld ?_ ?_
          rotate_left
          · (intro w hSw; (try dsimp only at hSw); obtain ⟨s6, s7, s8, s9⟩ := hSw; go_simp; (try with_reducible rfl))
          rotate_left
          · simp only [Act.put, List.setIfInBounds_toArray, List.set_cons_zero, List.set_cons_succ]
            rfl
          refine take1_ (i := 3) (v := ?_) (a' := ?_) (some 70) #[true, false, true, true, false, false, false, false, false, false, false] rfl rfl (by kernel_rfl) (fun _ _ _ h => h) (Or.inl ⟨by rfl, ?_⟩) hHeld ?_ ?_
          rotate_left
          · (intro w hSw; (try dsimp only at hSw); obtain ⟨s6, s7, s8, s9⟩ := hSw; go_simp; (try with_reducible rfl))
          rotate_left
          · simp only [Act.put, List.setIfInBounds_toArray, List.set_cons_zero, List.set_cons_succ]
            rfl
          refine take1_ (i := 4) (v := ?_) (a' := ?_) (some 71) #[true, false, true, true, true, false, false, false, false, false, false] rfl rfl (by kernel_rfl) (fun _ _ _ h => h) (Or.inl ⟨by rfl, ?_⟩) hHeld ?_ ?_
          rotate_left
          · (intro w hSw; (try dsimp only at hSw); obtain ⟨s6, s7, s8, s9⟩ := hSw; go_simp; (try with_reducible rfl))
          rotate_left
          · simp only [Act.put, List.setIfInBounds_toArray, List.set_cons_zero, List.set_cons_succ]
            rfl
          refine take1_ (i := 5) (v := ?_) (a' := ?_) (some 72) #[true, false, true, true, true, true, false, false, false, false, false] rfl rfl (by kernel_rfl) (fun _ _ _ h => h) (Or.inl ⟨by rfl, ?_⟩) hHeld ?_ ?_
          rotate_left
          · (intro w hSw; (try dsimp only at hSw); obtain ⟨s6, s7, s8, s9⟩ := hSw; go_simp; (try with_reducible rfl))
          rotate_left
          · simp only [Act.put, List.setIfInBounds_toArray, List.set_cons_zero, List.set_cons_succ]
            rfl
          refine loud1_ (i := 1) (some 68) #[true, true, true, true, true, true, false, false, false, false, false] rfl rfl (by kernel_rfl) (fun K hK => ?_)
          go_simp
          skip
          refine hK.out _ _ (by (first | with_reducible exact hnx | with_reducible exact hHeld | exact hnx.keep tape_set5 hneb)) (fun hHeld' => ?_)
          clear hK K hHeld
          have hHeld := hHeld'
          clear hHeld'
          try simp only [Act.put, List.setIfInBounds_toArray, List.set_cons_zero, List.set_cons_succ]
          refine loud1_ (i := 6) (some 73) #[true, true, true, true, true, true, true, false, false, false, false] rfl rfl (by kernel_rfl) (fun K hK => ?_)
          go_simp
          (go_at_call 19; refine HDO.out.mono ?_; rintro e w7 ⟨vq7, vS7, vQ7, rfl, hde⟩; obtain ⟨A8, c8, rfl, _⟩ := hde.ref.secs; obtain ⟨A9, c9, rfl, _⟩ := hde.ref.que; unfold rdV; have HDE := Lib.hid hde; have hnx : S4 ab (ao + j * 4) a w7 := HS7.out.keep ((Keep.of_below ((Below.refl _ wr).drew)).trans hde.keep) (fun e => by have := hge ab e; omega); clear k0 k1 k2 k3 k4; have hneb : ¬ ab = b8 := (by omega); have h6 := hde.keep.heap (old_heap HBOX.out ((Below.refl _ wr).drew)) hnb; have n0 : w7.cell? ⟨b8, 0, none⟩ = some (.slice AS D.S.length cS) := cell_row h6 0; have n1 : w7.cell? ⟨b8, 1, none⟩ = some (.slice AQ D.Q.length cQ) := cell_row h6 1; have n2 : w7.cell? ⟨b8, 2, none⟩ = some (.bool D.dead) := cell_row h6 2; have n3 : w7.cell? ⟨b8, 3, none⟩ = some (.int .i64 D.arm) := cell_row h6 3; have n4 : w7.cell? ⟨b8, 4, none⟩ = some (.int .i64 D.deeds) := cell_row h6 4; have m0 := free_row h6 0; have m1 := free_row h6 1; have m2 := free_row h6 2; have m3 := free_row h6 3; have m4 := free_row h6 4; clear h6 hde)
          refine hK.out _ _ (by (first | with_reducible exact hnx | with_reducible exact hHeld | exact hnx.keep tape_set5 hneb)) (fun hHeld' => ?_)
          clear hK K hHeld
          have hHeld := hHeld'
          clear hHeld'
          try simp only [Act.put, List.setIfInBounds_toArray, List.set_cons_zero, List.set_cons_succ]
          refine take1_ (i := 7) (v := ?_) (a' := ?_) (some 66) #[true, true, true, true, true, true, true, true, false, false, false] rfl rfl (by kernel_rfl) (fun _ _ _ h => h) (Or.inl ⟨by rfl, ?_⟩) hHeld ?_ ?_
          rotate_left
          · (intro w hSw; (try dsimp only at hSw); obtain ⟨s6, s7, s8, s9⟩ := hSw; go_simp; (try with_reducible rfl))
          rotate_left
          · simp only [Act.put, List.setIfInBounds_toArray, List.set_cons_zero, List.set_cons_succ]
            rfl
          refine take1_ (i := 8) (v := ?_) (a' := ?_) (some 74) #[true, true, true, true, true, true, true, true, true, false, false] rfl rfl (by kernel_rfl) (fun _ _ _ h => h) (Or.inl ⟨by rfl, ?_⟩) hHeld ?_ ?_
          rotate_left
          · (intro w hSw; (try dsimp only at hSw); obtain ⟨s6, s7, s8, s9⟩ := hSw; go_simp; (try with_reducible rfl))
          rotate_left
          · simp only [Act.put, List.setIfInBounds_toArray, List.set_cons_zero, List.set_cons_succ]
            rfl
          refine take1_ (i := 9) (v := ?_) (a' := ?_) (some 75) #[true, true, true, true, true, true, true, true, true, true, false] rfl rfl (by kernel_rfl) (fun _ _ _ h => h) (Or.inl ⟨by rfl, ?_⟩) hHeld ?_ ?_
          rotate_left
          · (intro w hSw; (try dsimp only at hSw); obtain ⟨s6, s7, s8, s9⟩ := hSw; go_simp; (try with_reducible rfl))
          rotate_left
          · simp only [Act.put, List.setIfInBounds_toArray, List.set_cons_zero, List.set_cons_succ]
            rfl
          refine loud1_ (i := 10) (none) #[true, true, true, true, true, true, true, true, true, true, true] rfl rfl (by kernel_rfl) (fun K hK => ?_)
          go_simp
          (rw [← set5])
          refine hK.out _ _ (by (first | with_reducible exact hnx | with_reducible exact hHeld | exact hnx.keep tape_set5 hneb)) (fun hHeld' => ?_)
          clear hK K hHeld
          have hHeld := hHeld'
          clear hHeld'
          try simp only [Act.put, List.setIfInBounds_toArray, List.set_cons_zero, List.set_cons_succ]
          refine wpAnyH_done (by kernel_rfl) ?_ _
          
          have hnxt := HS.out.step HDE.out ((Below.refl _ wr).drew) hoA HLA.out
          clear HDO HBOX HS7 HAC HBw hge hok hS1 hS6 m0 m1 m2 m3 m4 hbl
          revert hnxt
          generalize set5 w7 b8 (.slice A8 (actD D a).S.length c8) (.slice A9 (actD D a).Q.length c9) (.bool (actD D a).dead) (.int .i64 (actD D a).arm) (.int .i64 (actD D a).deeds) = w9
          intro hnxt
          have HN := Lib.hid hnxt
          clear hnxt HDE HLA hoA hHeld
          go_wp2
          exact ⟨⟨j + 1, by omega, by omega, by go_num, Lib.hid ⟨_, _, _, _, _, _, _, _, HN.out⟩⟩, by simp [intOf]; omega⟩
        · have hor : ∀ {G : Prop}, ((j : Int) < (L1.length : Int) → ¬ (j : Int) < 12 → G) → (¬ (j : Int) < (L1.length : Int) → G) → G := fun h1 h2 => by
            by_cases h : (j : Int) < (L1.length : Int)
            · exact h1 h (by omega)
            · exact h2 h
          clear hs
          refine hor (fun hj1 hj2 => ?_) (fun hj1 => ?_)
          all_goals
            clear hor hgo
            go_wp2
            go_meet
            case rel => exact Lib.hid ⟨_, _, _, _, _, _, _, _, _, _, by omega, hk20, HS.out⟩
      case rest =>
       obtain ⟨vq1, vS1, vQ1, D1, mm, mm', vq2, vS2, vQ2, E1, hm1, hm2, hs2⟩ := hcut.out
       obtain ⟨wt2, hwr⟩ : ∃ wr, wr = wc := ⟨_, rfl⟩
       rw [← hwr] at hs2 ⊢
       clear hwr hcut HST
       have HST := Lib.hid hs2.swap
       clear hs2
       go_upto_block 4 with fail
       go_cut [] (fun wc => Hid (∃ vq vS vQ D m m' vq' vS' vQ' E, m ≤ 60 ∧ m' ≤ 60 ∧ TwSt w p gS b8 p' gS' b11 7 m m' vq vS vQ D vq' vS' vQ' E wc))
       case first =>
        go_wp2
        go_loopw [13] (fun i wr => ∃ j : Nat, j ≤ L2.length ∧ j ≤ 12 ∧ i = .int .i64 (j : Int) ∧ Hid (∃ vq vS vQ D vq' vS' vQ' E, TwSt w p' gS' b11 p gS b8 7 (mm' + j) mm vq vS vQ D vq' vS' vQ' E wr)) (fun i _ => (12 - intOf i).toNat)
        case atStart => exact ⟨0, by omega, by omega, by rfl, Lib.hid ⟨_, _, _, _, _, _, _, _, HST.out⟩⟩
        case round =>
         obtain ⟨j, hj, hj40, rfl, HJ⟩ := hrel
         obtain ⟨vq, vS, vQ, D, vq', vS', vQ', E, hs⟩ := HJ.out
         have HS := Lib.hid hs
         by_cases hgo : j < L2.length ∧ j < 12
         · obtain ⟨hlt, h40⟩ := hgo
           have hlt' : (j : Int) < (L2.length : Int) := by omega
           have h40' : (j : Int) < 12 := by omega
           clear HST HJ
           obtain ⟨a, haj⟩ : ∃ a, L2[j]? = some a := ⟨_, List.getElem?_eq_getElem hlt⟩
           obtain ⟨ab, ao, rfl, hrow⟩ := HV2.out (fun e => by rw [e] at hlt; exact absurd hlt (Nat.not_lt_zero _))
           have hac := HACS2.out a (List.mem_of_getElem? haj)
           have HAC := Lib.hid hac
           have c0 := hrow j a haj 0 (by decide)
           have c1 := hrow j a haj 1 (by decide)
           have c2' := hrow j a haj 2 (by decide)
           have c3 := hrow j a haj 3 (by decide)
           have hab : ab < w.heap.size := World.block_lt_of_cell? w _ c0
           have hbw := hs.below
           have HBw := Lib.hid hbw
           have d0 := (hbw.cell (p := ⟨ab, ao + j * 4 + 0, none⟩) hab).trans c0
           have d1 := (hbw.cell (p := ⟨ab, ao + j * 4 + 1, none⟩) hab).trans c1
           have d2 := (hbw.cell (p := ⟨ab, ao + j * 4 + 2, none⟩) hab).trans c2'
           have d3 := (hbw.cell (p := ⟨ab, ao + j * 4 + 3, none⟩) hab).trans c3
           obtain ⟨AS, cS, rfl, _⟩ := hs.ref.secs
           obtain ⟨AQ, cQ, rfl, _⟩ := hs.ref.que
           have hS7 : S4 ab (ao + j * 4) a wr := ⟨d0, d1, d2, d3⟩
           have hbx := hs.box
           have k0 : wr.cell? ⟨b11, 0, none⟩ = some (.slice AS D.S.length cS) := cell_row hbx 0; have k1 : wr.cell? ⟨b11, 1, none⟩ = some (.slice AQ D.Q.length cQ) := cell_row hbx 1; have k2 : wr.cell? ⟨b11, 2, none⟩ = some (.bool D.dead) := cell_row hbx 2; have k3 : wr.cell? ⟨b11, 3, none⟩ = some (.int .i64 D.arm) := cell_row hbx 3; have k4 : wr.cell? ⟨b11, 4, none⟩ = some (.int .i64 D.deeds) := cell_row hbx 4
           have HS7 := Lib.hid hS7
           have hge := Ft.ge hs.disk
           have hnb := hs.nb
           have hwb := hs.hb
           have hm9 : mm' + j ≤ 900 := by omega
           have hS1 : 1 ≤ D.S.length := by rw [hs.len]; decide
           have hS6 : D.S.length ≤ 65536 := by rw [hs.len]; decide
           have hok := hs.ok
           have hj0 : (0 : Int) ≤ (j : Int) := by omega
           have hbl : b11 < wr.heap.size := (Array.getElem?_eq_some_iff.1 hs.box).1
           have hboxe := hs.box
           have HBOX := Lib.hid hboxe
           have hwc : Below wr.heap.size wr wr.drew := (Below.refl _ wr).drew
           have HDO := Lib.hid (ldo_any (X := twX p gS b11 b8 vq') (hs.disk.below hwc) (hs.refX hwc) (hs.ltX hwc) hm9 hok hS1 hS6 a HAC.out (hbw.trans (hwc.mono hbw.size)))
           unfold rdV acV at HDO
           obtain ⟨hoA, hlA⟩ := actD_ok hok HAC.out
           have HLA := Lib.hid (hlA.trans hs.len)
           clear hbx hrow haj c0 c1 c2' c3 d0 d1 d2 d3 hbw hS7 hac hboxe hwc hs hlA
           go_upto_region 18 with fail
           refine wp_region_held_drew (S := (S4 ab (ao + j * 4) a)) (by kernel_rfl) (by exact HS7.out) (fun hHeld => ?_)
           refine take1_ (i := 0) (v := ?_) (a' := ?_) (some 87) #[true, false, false, false, false, false, false, false, false, false, false] rfl rfl (by kernel_rfl) (fun _ _ _ h => h) (Or.inl ⟨by rfl, ?_⟩) hHeld ?_ ?_
           rotate_left
           · (intro w hSw; (try dsimp only at hSw); obtain ⟨s6, s7, s8, s9⟩ := hSw; go_simp; (try with_reducible rfl))
           rotate_left
           · simp only [Act.put, List.setIfInBounds_toArray, List.set_cons_zero, List.set_cons_succ]
             rfl
           refine take1_ (i := 2) (v := ?_) (a' := ?_) (some 89) #[true, false, true, false, false, false, false, false, false, false, false] rfl rfl (by kernel_rfl) (fun _ _ _ h => h) (Or.inl ⟨by rfl, ?_⟩) hHeld ?_ ?_
           rotate_left
           · (intro w hSw; (try dsimp only at hSw); obtain ⟨s6, s7, s8, s9⟩ := hSw; go_simp; (try with_reducible rfl))
           rotate_left
           · simp only [Act.put, List.setIfInBounds_toArray, List.set_cons_zero, List.set_cons_succ]
             rfl
           refine take1_ (i := 3) (v := ?_) (a' := ?_) (some 90) #[true, false, true, true, false, false, false, false, false, false, false] rfl rfl (by kernel_rfl) (fun _ _ _ h => h) (Or.inl ⟨by rfl, ?_⟩) hHeld ?_ ?_
           rotate_left
           · (intro w hSw; (try dsimp only at hSw); obtain ⟨s6, s7, s8, s9⟩ := hSw; go_simp; (try with_reducible rfl))
           rotate_left
           · simp only [Act.put, List.setIfInBounds_toArray, List.set_cons_zero, List.set_cons_succ]
             rfl
           refine take1_ (i := 4) (v := ?_) (a' := ?_) (some 91) #[true, false, true, true, true, false, false, false, false, false, false] rfl rfl (by kernel_rfl) (fun _ _ _ h => h) (Or.inl ⟨by rfl, ?_⟩) hHeld ?_ ?_
           rotate_left
           · (intro w hSw; (try dsimp only at hSw); obtain ⟨s6, s7, s8, s9⟩ := hSw; go_simp; (try with_reducible rfl))
           rotate_left
           · simp only [Act.put, List.setIfInBounds_toArray, List.set_cons_zero, List.set_cons_succ]
             rfl
           refine take1_ (i := 5) (v := ?_) (a' := ?_) (some 92) #[true, false, true, true, true, true, false, false, false, false, false] rfl rfl (by kernel_rfl) (fun _ _ _ h => h) (Or.inl ⟨by rfl, ?_⟩) hHeld ?_ ?_
           rotate_left
           · (intro w hSw; (try dsimp only at hSw); obtain ⟨s6, s7, s8, s9⟩ := hSw; go_simp; (try with_reducible rfl))
           rotate_left
           · simp only [Act.put, List.setIfInBounds_toArray, List.set_cons_zero, List.set_cons_succ]
             rfl
           refine loud1_ (i := 1) (some 88) #[true, true, true, true, true, true, false, false, false, false, false] rfl rfl (by kernel_rfl) (fun K hK => ?_)
           go_simp
           skip
           refine hK.out _ _ (by (first | with_reducible exact hnx | with_reducible exact hHeld | exact hnx.keep tape_set5 hneb)) (fun hHeld' => ?_)
           clear hK K hHeld
           have hHeld := hHeld'
           clear hHeld'
           try simp only [Act.put, List.setIfInBounds_toArray, List.set_cons_zero, List.set_cons_succ]
           refine loud1_ (i := 6) (some 93) #[true, true, true, true, true, true, true, false, false, false, false] rfl rfl (by kernel_rfl) (fun K hK => ?_)
           go_simp
           (go_at_call 19; refine HDO.out.mono ?_; rintro e w7 ⟨vq7, vS7, vQ7, rfl, hde⟩; obtain ⟨A8, c8, rfl, _⟩ := hde.ref.secs; obtain ⟨A9, c9, rfl, _⟩ := hde.ref.que; unfold rdV; have HDE := Lib.hid hde; have hnx : S4 ab (ao + j * 4) a w7 := HS7.out.keep ((Keep.of_below ((Below.refl _ wr).drew)).trans hde.keep) (fun e => by have := hge ab e; omega); clear k0 k1 k2 k3 k4; have hneb : ¬ ab = b11 := (by omega); have h6 := hde.keep.heap (old_heap HBOX.out ((Below.refl _ wr).drew)) hnb; have n0 : w7.cell? ⟨b11, 0, none⟩ = some (.slice AS D.S.length cS) := cell_row h6 0; have n1 : w7.cell? ⟨b11, 1, none⟩ = some (.slice AQ D.Q.length cQ) := cell_row h6 1; have n2 : w7.cell? ⟨b11, 2, none⟩ = some (.bool D.dead) := cell_row h6 2; have n3 : w7.cell? ⟨b11, 3, none⟩ = some (.int .i64 D.arm) := cell_row h6 3; have n4 : w7.cell? ⟨b11, 4, none⟩ = some (.int .i64 D.deeds) := cell_row h6 4; have m0 := free_row h6 0; have m1 := free_row h6 1; have m2 := free_row h6 2; have m3 := free_row h6 3; have m4 := free_row h6 4; clear h6 hde)
           refine hK.out _ _ (by (first | with_reducible exact hnx | with_reducible exact hHeld | exact hnx.keep tape_set5 hneb)) (fun hHeld' => ?_)
           clear hK K hHeld
           have hHeld := hHeld'
           clear hHeld'
           try simp only [Act.put, List.setIfInBounds_toArray, List.set_cons_zero, List.set_cons_succ]
           refine take1_ (i := 7) (v := ?_) (a' := ?_) (some 86) #[true, true, true, true, true, true, true, true, false, false, false] rfl rfl (by kernel_rfl) (fun _ _ _ h => h) (Or.inl ⟨by rfl, ?_⟩) hHeld ?_ ?_
           rotate_left
           · (intro w hSw; (try dsimp only at hSw); obtain ⟨s6, s7, s8, s9⟩ := hSw; go_simp; (try with_reducible rfl))
           rotate_left
           · simp only [Act.put, List.setIfInBounds_toArray, List.set_cons_zero, List.set_cons_succ]
             rfl
           refine take1_ (i := 8) (v := ?_) (a' := ?_) (some 94) #[true, true, true, true, true, true, true, true, true, false, false] rfl rfl (by kernel_rfl) (fun _ _ _ h => h) (Or.inl ⟨by rfl, ?_⟩) hHeld ?_ ?_
           rotate_left
           · (intro w hSw; (try dsimp only at hSw); obtain ⟨s6, s7, s8, s9⟩ := hSw; go_simp; (try with_reducible rfl))
           rotate_left
           · simp only [Act.put, List.setIfInBounds_toArray, List.set_cons_zero, List.set_cons_succ]
             rfl
           refine take1_ (i := 9) (v := ?_) (a' := ?_) (some 95) #[true, true, true, true, true, true, true, true, true, true, false] rfl rfl (by kernel_rfl) (fun _ _ _ h => h) (Or.inl ⟨by rfl, ?_⟩) hHeld ?_ ?_
           rotate_left
           · (intro w hSw; (try dsimp only at hSw); obtain ⟨s6, s7, s8, s9⟩ := hSw; go_simp; (try with_reducible rfl))
           rotate_left
           · simp only [Act.put, List.setIfInBounds_toArray, List.set_cons_zero, List.set_cons_succ]
             rfl
           refine loud1_ (i := 10) (none) #[true, true, true, true, true, true, true, true, true, true, true] rfl rfl (by kernel_rfl) (fun K hK => ?_)
           go_simp
           (rw [← set5])
           refine hK.out _ _ (by (first | with_reducible exact hnx | with_reducible exact hHeld | exact hnx.keep tape_set5 hneb)) (fun hHeld' => ?_)
           clear hK K hHeld
           have hHeld := hHeld'
           clear hHeld'
           try simp only [Act.put, List.setIfInBounds_toArray, List.set_cons_zero, List.set_cons_succ]
           refine wpAnyH_done (by kernel_rfl) ?_ _
           
           have hnxt := HS.out.step HDE.out ((Below.refl _ wr).drew) hoA HLA.out
           clear HDO HBOX HS7 HAC HBw hge hok hS1 hS6 m0 m1 m2 m3 m4 hbl
           revert hnxt
           generalize set5 w7 b11 (.slice A8 (actD D a).S.length c8) (.slice A9 (actD D a).Q.length c9) (.bool (actD D a).dead) (.int .i64 (actD D a).arm) (.int .i64 (actD D a).deeds) = w9
           intro hnxt
           have HN := Lib.hid hnxt
           clear hnxt HDE HLA hoA hHeld
           go_wp2
           exact ⟨⟨j + 1, by omega, by omega, by go_num, Lib.hid ⟨_, _, _, _, _, _, _, _, HN.out⟩⟩, by simp [intOf]; omega⟩
         · have hor : ∀ {G : Prop}, ((j : Int) < (L2.length : Int) → ¬ (j : Int) < 12 → G) → (¬ (j : Int) < (L2.length : Int) → G) → G := fun h1 h2 => by
             by_cases h : (j : Int) < (L2.length : Int)
             · exact h1 h (by omega)
             · exact h2 h
           clear hs
           refine hor (fun hj1 hj2 => ?_) (fun hj1 => ?_)
           all_goals
             clear hor hgo
             go_wp2
             go_meet
             case rel => exact Lib.hid ⟨_, _, _, _, _, _, _, _, _, _, by omega, by omega, HS.out.swap⟩
       case rest =>
        obtain ⟨vq, vS, vQ, D, m, m', vq', vS', vQ', E, hm1, hm2, hs⟩ := hcut.out
        obtain ⟨wt3, hwr⟩ : ∃ wr, wr = wc := ⟨_, rfl⟩
        rw [← hwr] at hs ⊢
        clear hwr hcut HST
        obtain ⟨AS, cS, rfl, _⟩ := hs.ref.secs
        obtain ⟨AQ, cQ, rfl, _⟩ := hs.ref.que
        obtain ⟨AS', cS', rfl, _⟩ := hs.ref'.secs
        obtain ⟨AQ', cQ', rfl, _⟩ := hs.ref'.que
        have HS := Lib.hid hs
        have hx8 := hs.box
        have hx11 := hs.box'
        have k0 : wt3.cell? ⟨b8, 0, none⟩ = some (.slice AS D.S.length cS) := cell_row hx8 0; have k1 : wt3.cell? ⟨b8, 1, none⟩ = some (.slice AQ D.Q.length cQ) := cell_row hx8 1; have k2 : wt3.cell? ⟨b8, 2, none⟩ = some (.bool D.dead) := cell_row hx8 2; have k3 : wt3.cell? ⟨b8, 3, none⟩ = some (.int .i64 D.arm) := cell_row hx8 3; have k4 : wt3.cell? ⟨b8, 4, none⟩ = some (.int .i64 D.deeds) := cell_row hx8 4
        have n0 : wt3.cell? ⟨b11, 0, none⟩ = some (.slice AS' E.S.length cS') := cell_row hx11 0; have n1 : wt3.cell? ⟨b11, 1, none⟩ = some (.slice AQ' E.Q.length cQ') := cell_row hx11 1; have n2 : wt3.cell? ⟨b11, 2, none⟩ = some (.bool E.dead) := cell_row hx11 2; have n3 : wt3.cell? ⟨b11, 3, none⟩ = some (.int .i64 E.arm) := cell_row hx11 3; have n4 : wt3.cell? ⟨b11, 4, none⟩ = some (.int .i64 E.deeds) := cell_row hx11 4
        have hql : D.Q.length ≤ 1000 := by have := hs.ok.len; omega
        have hsl : D.S.length ≤ 1000 := by rw [hs.len]; decide
        have HSL := Lib.hid (hs.len.trans hs.len'.symm)
        clear hs hx8 hx11
        go_upto_region 19 with fail
        go_cut [14] (fun t wc => t = .bool (decide (D.dead = E.dead) && decide (D.arm = E.arm) && decide (D.Q.length = E.Q.length)) ∧ wt3 = wc)
        case first =>
          by_cases h1 : D.dead = E.dead
          · have t1 : (D.dead == E.dead) = true := by simpa using h1
            by_cases h2 : D.arm = E.arm
            · have t2 : (D.arm == E.arm) = true := by simpa using h2
              by_cases h3 : D.Q.length = E.Q.length
              · have t3 : ((D.Q.length : Int) == (E.Q.length : Int)) = true := by simp; omega
                have hf : (decide (D.dead = E.dead) && decide (D.arm = E.arm) && decide (D.Q.length = E.Q.length)) = true := by simp [h1, h2, h3]
                have HF := Lib.hid hf
                clear h1 h2 h3 hf
                go_wp2
                go_meet
                case rel => exact ⟨by rw [HF.out], rfl⟩
              · have t3 : ((D.Q.length : Int) == (E.Q.length : Int)) = false := by simp; omega
                have hf : (decide (D.dead = E.dead) && decide (D.arm = E.arm) && decide (D.Q.length = E.Q.length)) = false := by simp [h3]
                have HF := Lib.hid hf
                clear h1 h2 h3 hf
                go_wp2
                go_meet
                case rel => exact ⟨by rw [HF.out], rfl⟩
            · have t2 : (D.arm == E.arm) = false := by simpa using h2
              have hf : (decide (D.dead = E.dead) && decide (D.arm = E.arm) && decide (D.Q.length = E.Q.length)) = false := by simp [h2]
              have HF := Lib.hid hf
              clear h1 h2 hf
              go_wp2
              go_meet
              case rel => exact ⟨by rw [HF.out], rfl⟩
          · have t1 : (D.dead == E.dead) = false := by simpa using h1
            have hf : (decide (D.dead = E.dead) && decide (D.arm = E.arm) && decide (D.Q.length = E.Q.length)) = false := by simp [h1]
            have HF := Lib.hid hf
            clear h1 hf
            go_wp2
            go_meet
            case rel => exact ⟨by rw [HF.out], rfl⟩
        case rest =>
          obtain ⟨rfl, rfl⟩ := hcut
          obtain ⟨ab, hab⟩ : ∃ ab, (decide (D.dead = E.dead) && decide (D.arm = E.arm)) = ab := ⟨_, rfl⟩
          obtain ⟨lb, hlb⟩ : ∃ lb, decide (D.Q.length = E.Q.length) = lb := ⟨_, rfl⟩
          rw [hab, hlb]
          have HAB := Lib.hid hab
          have HLB := Lib.hid hlb
          clear hab hlb
          go_upto_block 6 with fail
          go_cut [14] (fun t wc => t = .bool (ab && decide (D.Q = E.Q)) ∧ ∃ n, wc = wt3.drewN n)
          case first =>
            go_wp2
            go_loopw [14, 15] (fun t i wr => ∃ j : Nat, j ≤ D.Q.length ∧ i = .int .i64 (j : Int) ∧ (∃ b, t = .bool b ∧ Hid (b = (ab && lb && decide (D.Q.take j = E.Q.take j)))) ∧ ∃ n, wr = wt3.drewN n) (fun _ i _ => (D.Q.length - intOf i).toNat)
            case atStart => exact ⟨0, by omega, by rfl, ⟨_, rfl, Lib.hid (by simp)⟩, 0, rfl⟩
            case round =>
              obtain ⟨j, hj, rfl, ⟨b, rfl, HBJ⟩, nd, rfl⟩ := hrel
              cases b with
              | false =>
                have HF := Lib.hid (alike_no HBJ.out HLB.out)
                go_wp2
                go_meet
                case rel => exact ⟨by rw [HF.out], nd, rfl⟩
              | true =>
                by_cases hlt : j < D.Q.length
                · obtain ⟨x, hx⟩ : ∃ x, D.Q[j]? = some x := ⟨_, List.getElem?_eq_getElem hlt⟩
                  have hbj := HBJ.out
                  have hlb : lb = true := by cases lb <;> simp at hbj ⊢
                  have hlen : D.Q.length = E.Q.length := by have := HLB.out; rw [hlb] at this; exact of_decide_eq_true this
                  obtain ⟨y, hy⟩ : ∃ y, E.Q[j]? = some y := ⟨_, List.getElem?_eq_getElem (by omega)⟩
                  have HNB := Lib.hid (alike_step HBJ.out hx hy)
                  have hrow := rows_atR wrF_len HS.out.ref.que hx
                  have hrow' := rows_atR wrF_len HS.out.ref'.que hy
                  obtain ⟨xb, xo, rfl, hrow⟩ := hrow
                  obtain ⟨yb, yo, rfl, hrow'⟩ := hrow'
                  obtain ⟨cs, hcs, hcl⟩ : ∃ cs : List Value, wrF x = cs ∧ cs.length = 129 := ⟨_, rfl, wrF_len _⟩
                  obtain ⟨ds, hds, hdl⟩ : ∃ ds : List Value, wrF y = ds ∧ ds.length = 129 := ⟨_, rfl, wrF_len _⟩
                  have heq : ∀ W : World, (Op.equalIn 10000 63 (.agg cs.toArray) (.agg ds.toArray)).run Try.prog W = .ok (decide (x = y)) W := fun W => by rw [← hcs, ← hds]; exact equal_rwrD W x y
                  rw [hcs] at hrow
                  rw [hds] at hrow'
                  have hu := Try.underlying63
                  have hi : (Try.prog.info? 63).map (·.size) = some cs.length := by rw [hcl]; exact size_rwr
                  have hi' : (Try.prog.info? 63).map (·.size) = some ds.length := by rw [hdl]; exact size_rwr
                  have hj0 : (0 : Int) ≤ (j : Int) := by omega
                  have hj1 : (j : Int) < (D.Q.length : Int) := by omega
                  have hj2 : (j : Int) < (E.Q.length : Int) := by omega
                  have hSS : TwS b8 b11 (.slice (some ⟨xb, xo, none⟩) D.Q.length cQ) (.slice (some ⟨yb, yo, none⟩) E.Q.length cQ') xb (xo + j * 129) cs yb (yo + j * 129) ds 1 (wt3.drewN nd).drew := ⟨k1, n1, hrow, hrow'⟩
                  have HSS := Lib.hid hSS
                  obtain ⟨bxy, hbxy⟩ : ∃ b : Bool, decide (x = y) = b := ⟨_, rfl⟩
                  rw [hbxy] at heq HNB
                  clear hx hy hrow hrow' hcs hds hbxy hbj hlb hlen hSS
                  go_upto_region 23 with fail
                  refine wp_region_held_drew (S := (fun w' => w'.cell? ⟨b8, 1, none⟩ = some (.slice (some ⟨xb, xo, none⟩) D.Q.length cQ) ∧ w'.cell? ⟨b11, 1, none⟩ = some (.slice (some ⟨yb, yo, none⟩) E.Q.length cQ') ∧ w'.rangeAt xb (xo + j * 129) cs ∧ w'.rangeAt yb (yo + j * 129) ds)) (by kernel_rfl) (by exact HSS.out) (fun hHeld => ?_)
                  refine take1_ (i := 0) (v := ?_) (a' := ?_) (some 127) #[true, false, false, false, false, false, false, false, false, false, false, false] rfl rfl (by kernel_rfl) (fun _ _ _ h => h) (Or.inl ⟨by rfl, ?_⟩) hHeld ?_ ?_
                  rotate_left
                  · (intro w hSw; (try dsimp only at hSw); obtain ⟨s1, s2, s3, s4⟩ := hSw; go_simp; (try with_reducible rfl))
                  rotate_left
                  · simp only [Act.put, List.setIfInBounds_toArray, List.set_cons_zero, List.set_cons_succ]
                    rfl
                  refine take1_ (i := 1) (v := ?_) (a' := ?_) (some 128) #[true, true, false, false, false, false, false, false, false, false, false, false] rfl rfl (by kernel_rfl) (fun _ _ _ h => h) (Or.inl ⟨by rfl, ?_⟩) hHeld ?_ ?_
                  rotate_left
                  · (intro w hSw; (try dsimp only at hSw); obtain ⟨s1, s2, s3, s4⟩ := hSw; go_simp; (try with_reducible rfl))
                  rotate_left
                  · simp only [Act.put, List.setIfInBounds_toArray, List.set_cons_zero, List.set_cons_succ]
                    rfl
                  refine take1_ (i := 2) (v := ?_) (a' := ?_) (some 129) #[true, true, true, false, false, false, false, false, false, false, false, false] rfl rfl (by kernel_rfl) (fun _ _ _ h => h) (Or.inl ⟨by rfl, ?_⟩) hHeld ?_ ?_
                  rotate_left
                  · (intro w hSw; (try dsimp only at hSw); obtain ⟨s1, s2, s3, s4⟩ := hSw; go_simp; (try with_reducible rfl))
                  rotate_left
                  · simp only [Act.put, List.setIfInBounds_toArray, List.set_cons_zero, List.set_cons_succ]
                    rfl
                  refine take1_ (i := 3) (v := ?_) (a' := ?_) (some 130) #[true, true, true, true, false, false, false, false, false, false, false, false] rfl rfl (by kernel_rfl) (fun _ _ _ h => h) (Or.inl ⟨by rfl, ?_⟩) hHeld ?_ ?_
                  rotate_left
                  · (intro w hSw; (try dsimp only at hSw); obtain ⟨s1, s2, s3, s4⟩ := hSw; go_simp; (try with_reducible rfl))
                  rotate_left
                  · simp only [Act.put, List.setIfInBounds_toArray, List.set_cons_zero, List.set_cons_succ]
                    rfl
                  refine take1_ (i := 4) (v := .agg cs.toArray) (a' := ?_) (some 131) #[true, true, true, true, true, false, false, false, false, false, false, false] rfl rfl (by kernel_rfl) (fun _ _ _ h => h) (yieldsIf_load_mid (by rfl) 63 (.tmp 130) rfl xb (xo + j * 129) rfl cs _ (fun w h => h.2.2.1) hu rfl hi) hHeld ?_ ?_
                  rotate_left
                  · simp only [Act.put, List.setIfInBounds_toArray, List.set_cons_zero, List.set_cons_succ]
                    rfl
                  refine take1_ (i := 5) (v := ?_) (a' := ?_) (some 132) #[true, true, true, true, true, true, false, false, false, false, false, false] rfl rfl (by kernel_rfl) (fun _ _ _ h => h) (Or.inl ⟨by rfl, ?_⟩) hHeld ?_ ?_
                  rotate_left
                  · (intro w hSw; (try dsimp only at hSw); obtain ⟨s1, s2, s3, s4⟩ := hSw; go_simp; (try with_reducible rfl))
                  rotate_left
                  · simp only [Act.put, List.setIfInBounds_toArray, List.set_cons_zero, List.set_cons_succ]
                    rfl
                  refine take1_ (i := 6) (v := ?_) (a' := ?_) (some 133) #[true, true, true, true, true, true, true, false, false, false, false, false] rfl rfl (by kernel_rfl) (fun _ _ _ h => h) (Or.inl ⟨by rfl, ?_⟩) hHeld ?_ ?_
                  rotate_left
                  · (intro w hSw; (try dsimp only at hSw); obtain ⟨s1, s2, s3, s4⟩ := hSw; go_simp; (try with_reducible rfl))
                  rotate_left
                  · simp only [Act.put, List.setIfInBounds_toArray, List.set_cons_zero, List.set_cons_succ]
                    rfl
                  refine take1_ (i := 7) (v := ?_) (a' := ?_) (some 134) #[true, true, true, true, true, true, true, true, false, false, false, false] rfl rfl (by kernel_rfl) (fun _ _ _ h => h) (Or.inl ⟨by rfl, ?_⟩) hHeld ?_ ?_
                  rotate_left
                  · (intro w hSw; (try dsimp only at hSw); obtain ⟨s1, s2, s3, s4⟩ := hSw; go_simp; (try with_reducible rfl))
                  rotate_left
                  · simp only [Act.put, List.setIfInBounds_toArray, List.set_cons_zero, List.set_cons_succ]
                    rfl
                  refine take1_ (i := 8) (v := ?_) (a' := ?_) (some 135) #[true, true, true, true, true, true, true, true, true, false, false, false] rfl rfl (by kernel_rfl) (fun _ _ _ h => h) (Or.inl ⟨by rfl, ?_⟩) hHeld ?_ ?_
                  rotate_left
                  · (intro w hSw; (try dsimp only at hSw); obtain ⟨s1, s2, s3, s4⟩ := hSw; go_simp; (try with_reducible rfl))
                  rotate_left
                  · simp only [Act.put, List.setIfInBounds_toArray, List.set_cons_zero, List.set_cons_succ]
                    rfl
                  refine take1_ (i := 9) (v := .agg ds.toArray) (a' := ?_) (some 136) #[true, true, true, true, true, true, true, true, true, true, false, false] rfl rfl (by kernel_rfl) (fun _ _ _ h => h) (yieldsIf_load_mid (by rfl) 63 (.tmp 135) rfl yb (yo + j * 129) rfl ds _ (fun w h => h.2.2.2) hu rfl hi') hHeld ?_ ?_
                  rotate_left
                  · simp only [Act.put, List.setIfInBounds_toArray, List.set_cons_zero, List.set_cons_succ]
                    rfl
                  refine take1_ (i := 10) (v := ?_) (a' := ?_) (some 137) #[true, true, true, true, true, true, true, true, true, true, true, false] rfl rfl (by kernel_rfl) (fun _ _ _ h => h) (Or.inl ⟨by rfl, ?_⟩) hHeld ?_ ?_
                  rotate_left
                  · (intro w hSw; (try dsimp only at hSw); obtain ⟨s1, s2, s3, s4⟩ := hSw; go_simp; (try with_reducible rfl))
                  rotate_left
                  · simp only [Act.put, List.setIfInBounds_toArray, List.set_cons_zero, List.set_cons_succ]
                    rfl
                  refine loud1_ (i := 11) (some 14) #[true, true, true, true, true, true, true, true, true, true, true, true] rfl rfl (by kernel_rfl) (fun K hK => ?_)
                  go_simp
                  skip
                  refine hK.out _ _ (by exact hHeld) (fun hHeld' => ?_)
                  clear hK K hHeld
                  have hHeld := hHeld'
                  clear hHeld'
                  try simp only [Act.put, List.setIfInBounds_toArray, List.set_cons_zero, List.set_cons_succ]
                  refine wpAnyH_done (by kernel_rfl) ?_ _
                  clear hHeld HSS heq hu hi hi' hcl hdl
                  go_wp2
                  exact ⟨⟨j + 1, by omega, by go_num, ⟨_, rfl, HNB⟩, nd + 1, rfl⟩, by simp [intOf]; omega⟩
                · obtain rfl : j = D.Q.length := by omega
                  have HF := Lib.hid (alike_end HBJ.out HLB.out)
                  go_wp2
                  go_meet
                  case rel => exact ⟨by rw [HF.out], nd, rfl⟩
          case rest =>
            obtain ⟨rfl, n4, rfl⟩ := hcut
            obtain ⟨al, hal⟩ : ∃ al, (ab && decide (D.Q = E.Q)) = al := ⟨_, rfl⟩
            rw [hal]
            have HAL := Lib.hid hal
            clear hal
            go_wp2
            go_loopw [14, 141] (fun t i wr => ∃ j : Nat, j ≤ D.S.length ∧ i = .int .i64 (j : Int) ∧ (∃ b, t = .bool b ∧ Hid (b = (al && decide (D.S.take j = E.S.take j)))) ∧ ∃ n, wr = wt3.drewN n) (fun _ i _ => (D.S.length - intOf i).toNat)
            case atStart => exact ⟨0, by omega, by rfl, ⟨_, rfl, Lib.hid (by simp)⟩, n4, rfl⟩
            case round =>
              obtain ⟨j, hj, rfl, ⟨b, rfl, HBJ⟩, nd, rfl⟩ := hrel
              by_cases hlt : j < D.S.length
              · obtain ⟨x, hx⟩ : ∃ x, D.S[j]? = some x := ⟨_, List.getElem?_eq_getElem hlt⟩
                have hlen : D.S.length = E.S.length := HSL.out
                obtain ⟨y, hy⟩ : ∃ y, E.S[j]? = some y := ⟨_, List.getElem?_eq_getElem (by omega)⟩
                have hrow := rows_atR scF_len HS.out.ref.secs hx
                have hrow' := rows_atR scF_len HS.out.ref'.secs hy
                obtain ⟨xb, xo, rfl, hrow⟩ := hrow
                obtain ⟨yb, yo, rfl, hrow'⟩ := hrow'
                obtain ⟨cs, hcs, hcl⟩ : ∃ cs : List Value, scF x = cs ∧ cs.length = 128 := ⟨_, rfl, scF_len _⟩
                obtain ⟨ds, hds, hdl⟩ : ∃ ds : List Value, scF y = ds ∧ ds.length = 128 := ⟨_, rfl, scF_len _⟩
                have heq : ∀ W : World, (Op.equalIn 10000 30 (.agg cs.toArray) (.agg ds.toArray)).run Try.prog W = .ok (decide (x = y)) W := fun W => by rw [← hcs, ← hds]; exact equal_arD W x y
                rw [hcs] at hrow
                rw [hds] at hrow'
                have hu := Try.underlying30
                have hi : (Try.prog.info? 30).map (·.size) = some cs.length := by rw [hcl]; exact size_arr
                have hi' : (Try.prog.info? 30).map (·.size) = some ds.length := by rw [hdl]; exact size_arr
                have hj0 : (0 : Int) ≤ (j : Int) := by omega
                have hj1 : (j : Int) < (D.S.length : Int) := by omega
                have hj2 : (j : Int) < (E.S.length : Int) := by omega
                have hSS : TwS b8 b11 (.slice (some ⟨xb, xo, none⟩) D.S.length cS) (.slice (some ⟨yb, yo, none⟩) E.S.length cS') xb (xo + j * 128) cs yb (yo + j * 128) ds 0 (wt3.drewN nd).drew := ⟨k0, n0, hrow, hrow'⟩
                have HSS := Lib.hid hSS
                obtain ⟨bxy, hbxy⟩ : ∃ b : Bool, decide (x = y) = b := ⟨_, rfl⟩
                rw [hbxy] at heq
                cases b with
                | true =>
                  have hnb := alike_stepS HBJ.out hx hy
                  rw [hbxy] at hnb
                  have HNB := Lib.hid hnb
                  clear hx hy hrow hrow' hcs hds hbxy hlen hSS hnb
                  go_upto_region 27 with fail
                  refine wp_region_held_drew (S := (fun w' => w'.cell? ⟨b8, 0, none⟩ = some (.slice (some ⟨xb, xo, none⟩) D.S.length cS) ∧ w'.cell? ⟨b11, 0, none⟩ = some (.slice (some ⟨yb, yo, none⟩) E.S.length cS') ∧ w'.rangeAt xb (xo + j * 128) cs ∧ w'.rangeAt yb (yo + j * 128) ds)) (by kernel_rfl) (by exact HSS.out) (fun hHeld => ?_)
                  refine take1_ (i := 0) (v := ?_) (a' := ?_) (some 144) #[true, false, false, false, false, false, false, false, false, false, false, false, false, false, false] rfl rfl (by kernel_rfl) (fun _ _ _ h => h) (Or.inl ⟨by rfl, ?_⟩) hHeld ?_ ?_
                  rotate_left
                  · (intro w hSw; (try dsimp only at hSw); obtain ⟨s1, s2, s3, s4⟩ := hSw; go_simp; (try with_reducible rfl))
                  rotate_left
                  · simp only [Act.put, List.setIfInBounds_toArray, List.set_cons_zero, List.set_cons_succ]
                    rfl
                  refine take1_ (i := 1) (v := ?_) (a' := ?_) (some 145) #[true, true, false, false, false, false, false, false, false, false, false, false, false, false, false] rfl rfl (by kernel_rfl) (fun _ _ _ h => h) (Or.inl ⟨by rfl, ?_⟩) hHeld ?_ ?_
                  rotate_left
                  · (intro w hSw; (try dsimp only at hSw); obtain ⟨s1, s2, s3, s4⟩ := hSw; go_simp; (try with_reducible rfl))
                  rotate_left
                  · simp only [Act.put, List.setIfInBounds_toArray, List.set_cons_zero, List.set_cons_succ]
                    rfl
                  refine take1_ (i := 2) (v := ?_) (a' := ?_) (some 146) #[true, true, true, false, false, false, false, false, false, false, false, false, false, false, false] rfl rfl (by kernel_rfl) (fun _ _ _ h => h) (Or.inl ⟨by rfl, ?_⟩) hHeld ?_ ?_
                  rotate_left
                  · (intro w hSw; (try dsimp only at hSw); obtain ⟨s1, s2, s3, s4⟩ := hSw; go_simp; (try with_reducible rfl))
                  rotate_left
                  · simp only [Act.put, List.setIfInBounds_toArray, List.set_cons_zero, List.set_cons_succ]
                    rfl
                  refine take1_ (i := 3) (v := ?_) (a' := ?_) (some 147) #[true, true, true, true, false, false, false, false, false, false, false, false, false, false, false] rfl rfl (by kernel_rfl) (fun _ _ _ h => h) (Or.inl ⟨by rfl, ?_⟩) hHeld ?_ ?_
                  rotate_left
                  · (intro w hSw; (try dsimp only at hSw); obtain ⟨s1, s2, s3, s4⟩ := hSw; go_simp; (try with_reducible rfl))
                  rotate_left
                  · simp only [Act.put, List.setIfInBounds_toArray, List.set_cons_zero, List.set_cons_succ]
                    rfl
                  refine take1_ (i := 4) (v := ?_) (a' := ?_) (some 148) #[true, true, true, true, true, false, false, false, false, false, false, false, false, false, false] rfl rfl (by kernel_rfl) (fun _ _ _ h => h) (Or.inl ⟨by rfl, ?_⟩) hHeld ?_ ?_
                  rotate_left
                  · (intro w hSw; (try dsimp only at hSw); obtain ⟨s1, s2, s3, s4⟩ := hSw; go_simp; (try with_reducible rfl))
                  rotate_left
                  · simp only [Act.put, List.setIfInBounds_toArray, List.set_cons_zero, List.set_cons_succ]
                    rfl
                  refine take1_ (i := 5) (v := ?_) (a' := ?_) (some 149) #[true, true, true, true, true, true, false, false, false, false, false, false, false, false, false] rfl rfl (by kernel_rfl) (fun _ _ _ h => h) (Or.inl ⟨by rfl, ?_⟩) hHeld ?_ ?_
                  rotate_left
                  · (intro w hSw; (try dsimp only at hSw); obtain ⟨s1, s2, s3, s4⟩ := hSw; go_simp; (try with_reducible rfl))
                  rotate_left
                  · simp only [Act.put, List.setIfInBounds_toArray, List.set_cons_zero, List.set_cons_succ]
                    rfl
                  refine take1_ (i := 6) (v := .agg cs.toArray) (a' := ?_) (some 150) #[true, true, true, true, true, true, true, false, false, false, false, false, false, false, false] rfl rfl (by kernel_rfl) (fun _ _ _ h => h) (yieldsIf_load_mid (by rfl) 30 (.tmp 149) rfl xb (xo + j * 128) rfl cs _ (fun w h => h.2.2.1) hu rfl hi) hHeld ?_ ?_
                  rotate_left
                  · simp only [Act.put, List.setIfInBounds_toArray, List.set_cons_zero, List.set_cons_succ]
                    rfl
                  refine take1_ (i := 7) (v := ?_) (a' := ?_) (some 151) #[true, true, true, true, true, true, true, true, false, false, false, false, false, false, false] rfl rfl (by kernel_rfl) (fun _ _ _ h => h) (Or.inl ⟨by rfl, ?_⟩) hHeld ?_ ?_
                  rotate_left
                  · (intro w hSw; (try dsimp only at hSw); obtain ⟨s1, s2, s3, s4⟩ := hSw; go_simp; (try with_reducible rfl))
                  rotate_left
                  · simp only [Act.put, List.setIfInBounds_toArray, List.set_cons_zero, List.set_cons_succ]
                    rfl
                  refine take1_ (i := 8) (v := ?_) (a' := ?_) (some 152) #[true, true, true, true, true, true, true, true, true, false, false, false, false, false, false] rfl rfl (by kernel_rfl) (fun _ _ _ h => h) (Or.inl ⟨by rfl, ?_⟩) hHeld ?_ ?_
                  rotate_left
                  · (intro w hSw; (try dsimp only at hSw); obtain ⟨s1, s2, s3, s4⟩ := hSw; go_simp; (try with_reducible rfl))
                  rotate_left
                  · simp only [Act.put, List.setIfInBounds_toArray, List.set_cons_zero, List.set_cons_succ]
                    rfl
                  refine take1_ (i := 9) (v := ?_) (a' := ?_) (some 153) #[true, true, true, true, true, true, true, true, true, true, false, false, false, false, false] rfl rfl (by kernel_rfl) (fun _ _ _ h => h) (Or.inl ⟨by rfl, ?_⟩) hHeld ?_ ?_
                  rotate_left
                  · (intro w hSw; (try dsimp only at hSw); obtain ⟨s1, s2, s3, s4⟩ := hSw; go_simp; (try with_reducible rfl))
                  rotate_left
                  · simp only [Act.put, List.setIfInBounds_toArray, List.set_cons_zero, List.set_cons_succ]
                    rfl
                  refine take1_ (i := 10) (v := ?_) (a' := ?_) (some 154) #[true, true, true, true, true, true, true, true, true, true, true, false, false, false, false] rfl rfl (by kernel_rfl) (fun _ _ _ h => h) (Or.inl ⟨by rfl, ?_⟩) hHeld ?_ ?_
                  rotate_left
                  · (intro w hSw; (try dsimp only at hSw); obtain ⟨s1, s2, s3, s4⟩ := hSw; go_simp; (try with_reducible rfl))
                  rotate_left
                  · simp only [Act.put, List.setIfInBounds_toArray, List.set_cons_zero, List.set_cons_succ]
                    rfl
                  refine take1_ (i := 11) (v := .agg ds.toArray) (a' := ?_) (some 155) #[true, true, true, true, true, true, true, true, true, true, true, true, false, false, false] rfl rfl (by kernel_rfl) (fun _ _ _ h => h) (yieldsIf_load_mid (by rfl) 30 (.tmp 154) rfl yb (yo + j * 128) rfl ds _ (fun w h => h.2.2.2) hu rfl hi') hHeld ?_ ?_
                  rotate_left
                  · simp only [Act.put, List.setIfInBounds_toArray, List.set_cons_zero, List.set_cons_succ]
                    rfl
                  refine take1_ (i := 12) (v := ?_) (a' := ?_) (some 156) #[true, true, true, true, true, true, true, true, true, true, true, true, true, false, false] rfl rfl (by kernel_rfl) (fun _ _ _ h => h) (Or.inl ⟨by rfl, ?_⟩) hHeld ?_ ?_
                  rotate_left
                  · (intro w hSw; (try dsimp only at hSw); obtain ⟨s1, s2, s3, s4⟩ := hSw; go_simp; (try with_reducible rfl))
                  rotate_left
                  · simp only [Act.put, List.setIfInBounds_toArray, List.set_cons_zero, List.set_cons_succ]
                    rfl
                  refine take1_ (i := 13) (v := ?_) (a' := ?_) (some 157) #[true, true, true, true, true, true, true, true, true, true, true, true, true, true, false] rfl rfl (by kernel_rfl) (fun _ _ _ h => h) (Or.inl ⟨by rfl, ?_⟩) hHeld ?_ ?_
                  rotate_left
                  · (intro w hSw; (try dsimp only at hSw); obtain ⟨s1, s2, s3, s4⟩ := hSw; go_simp; (try with_reducible rfl))
                  rotate_left
                  · simp only [Act.put, List.setIfInBounds_toArray, List.set_cons_zero, List.set_cons_succ]
                    rfl
                  refine loud1_ (i := 14) (some 14) #[true, true, true, true, true, true, true, true, true, true, true, true, true, true, true] rfl rfl (by kernel_rfl) (fun K hK => ?_)
                  go_simp
                  skip
                  refine hK.out _ _ (by exact hHeld) (fun hHeld' => ?_)
                  clear hK K hHeld
                  have hHeld := hHeld'
                  clear hHeld'
                  try simp only [Act.put, List.setIfInBounds_toArray, List.set_cons_zero, List.set_cons_succ]
                  refine wpAnyH_done (by kernel_rfl) ?_ _
                  clear hHeld HSS heq hu hi hi' hcl hdl
                  go_wp2
                  exact ⟨⟨j + 1, by omega, by go_num, ⟨_, rfl, HNB⟩, nd + 1, rfl⟩, by simp [intOf]; omega⟩
                | false =>
                  have HNB := Lib.hid (alike_noS HBJ.out)
                  clear hx hy hrow hrow' hcs hds hbxy hlen hSS heq
                  go_upto_region 27 with fail
                  refine wp_region_held_drew (S := (fun w' => w'.cell? ⟨b8, 0, none⟩ = some (.slice (some ⟨xb, xo, none⟩) D.S.length cS) ∧ w'.cell? ⟨b11, 0, none⟩ = some (.slice (some ⟨yb, yo, none⟩) E.S.length cS') ∧ w'.rangeAt xb (xo + j * 128) cs ∧ w'.rangeAt yb (yo + j * 128) ds)) (by kernel_rfl) (by exact HSS.out) (fun hHeld => ?_)
                  refine take1_ (i := 0) (v := ?_) (a' := ?_) (some 144) #[true, false, false, false, false, false, false, false, false, false, false, false, false, false, false] rfl rfl (by kernel_rfl) (fun _ _ _ h => h) (Or.inl ⟨by rfl, ?_⟩) hHeld ?_ ?_
                  rotate_left
                  · (intro w hSw; (try dsimp only at hSw); obtain ⟨s1, s2, s3, s4⟩ := hSw; go_simp; (try with_reducible rfl))
                  rotate_left
                  · simp only [Act.put, List.setIfInBounds_toArray, List.set_cons_zero, List.set_cons_succ]
                    rfl
                  refine take1_ (i := 1) (v := ?_) (a' := ?_) (some 145) #[true, true, false, false, false, false, false, false, false, false, false, false, false, false, false] rfl rfl (by kernel_rfl) (fun _ _ _ h => h) (Or.inl ⟨by rfl, ?_⟩) hHeld ?_ ?_
                  rotate_left
                  · (intro w hSw; (try dsimp only at hSw); obtain ⟨s1, s2, s3, s4⟩ := hSw; go_simp; (try with_reducible rfl))
                  rotate_left
                  · simp only [Act.put, List.setIfInBounds_toArray, List.set_cons_zero, List.set_cons_succ]
                    rfl
                  refine off_ (by kernel_rfl) (fun _ _ d _ _ h => by cases d <;> exact h) hHeld [2, 3, 4, 5, 6, 7, 8, 9, 10, 11, 12] [some 146, some 147, some 148, some 149, some 150, some 151, some 152, some 153, some 154, some 155, some 156] [(145, some false)] #[true, true, true, true, true, true, true, true, true, true, true, true, true, false, false] 2 rfl (by kernel_rfl) (by repeat (first | exact trivial | refine ⟨by rfl, ?_⟩)) (a' := ?_) ?_ ?_
                  rotate_left
                  · simp only [putOff, Act.put, List.setIfInBounds_toArray, List.set_cons_zero, List.set_cons_succ]
                    rfl
                  refine take1_ (i := 13) (v := ?_) (a' := ?_) (some 157) #[true, true, true, true, true, true, true, true, true, true, true, true, true, true, false] rfl rfl (by kernel_rfl) (fun _ _ _ h => h) (Or.inl ⟨by rfl, ?_⟩) hHeld ?_ ?_
                  rotate_left
                  · (intro w hSw; (try dsimp only at hSw); obtain ⟨s1, s2, s3, s4⟩ := hSw; go_simp; (try with_reducible rfl))
                  rotate_left
                  · simp only [Act.put, List.setIfInBounds_toArray, List.set_cons_zero, List.set_cons_succ]
                    rfl
                  refine loud1_ (i := 14) (some 14) #[true, true, true, true, true, true, true, true, true, true, true, true, true, true, true] rfl rfl (by kernel_rfl) (fun K hK => ?_)
                  go_simp
                  skip
                  refine hK.out _ _ (by exact hHeld) (fun hHeld' => ?_)
                  clear hK K hHeld
                  have hHeld := hHeld'
                  clear hHeld'
                  try simp only [Act.put, List.setIfInBounds_toArray, List.set_cons_zero, List.set_cons_succ]
                  refine wpAnyH_done (by kernel_rfl) ?_ _
                  clear hHeld HSS hu hi hi' hcl hdl
                  go_wp2
                  exact ⟨⟨j + 1, by omega, by go_num, ⟨_, rfl, HNB⟩, nd + 1, rfl⟩, by simp [intOf]; omega⟩
              · obtain rfl : j = D.S.length := by omega
                have hb : b = sameD D E := by
                  have h1 := HBJ.out
                  rw [List.take_length, HSL.out, List.take_length, ← HAL.out, ← HAB.out] at h1
                  rw [h1]
                  unfold sameD
                  cases decide (D.Q = E.Q) <;> cases decide (D.S = E.S) <;> simp
                have hI1 := HS.out.drewN nd
                have hql' : E.Q.length ≤ 1000 := by have := hI1.ok'.len; omega
                have hsl' : E.S.length ≤ 65536 := by rw [hI1.len']; decide
                have HI1 := Lib.hid (lis_any hI1.disk hI1.ref (by omega) (by omega))
                have HI2 := fun W (hb : Below (wt3.drewN nd).heap.size (wt3.drewN nd) W) => Lib.hid (lis_any (hI1.bel hb).disk' (hI1.bel hb).ref' hql' hsl')
                have HI3 := fun W (hb : Below (wt3.drewN nd).heap.size (wt3.drewN nd) W) => Lib.hid (dsame_any (hI1.bel hb).disk (hI1.bel hb).disk' (by omega) (by omega))
                simp only [← hb] at HI3
                unfold RetT rdV at HI1 HI2
                have hx11 := hI1.box'
                have HX11 := Lib.hid hx11
                have t1 : (b == b) = true := by simp
                have HBW := Lib.hid hI1.below
                clear hI1 hb hx11
                go_wp2_with (first
                  | (go_at_call 20; (with_reducible refine HI1.out.mono ?_); rintro e wi1 ⟨rfl, hbi1⟩; have HBI1 := Lib.hid hbi1; have HI2' := HI2 _ hbi1; have hx := old_heap HX11.out hbi1; clear n0 n1 n2 n3 n4; have n0 : wi1.cell? ⟨b11, 0, none⟩ = some (.slice AS' E.S.length cS') := cell_row hx 0; have n1 : wi1.cell? ⟨b11, 1, none⟩ = some (.slice AQ' E.Q.length cQ') := cell_row hx 1; have n2 : wi1.cell? ⟨b11, 2, none⟩ = some (.bool E.dead) := cell_row hx 2; have n3 : wi1.cell? ⟨b11, 3, none⟩ = some (.int .i64 E.arm) := cell_row hx 3; have n4 : wi1.cell? ⟨b11, 4, none⟩ = some (.int .i64 E.deeds) := cell_row hx 4; clear hbi1 hx)
                  | (go_at_call 20; (with_reducible refine HI2'.out.mono ?_); rintro e wi2 ⟨rfl, hbi2⟩; have HBI2 := Lib.hid (bnext HBI1.out hbi2); have HI3' := HI3 _ HBI2.out; clear hbi2)
                  | (go_at_call 24; (with_reducible refine HI3'.out.mono ?_); rintro e wi3 ⟨rfl, n5, rfl⟩))
                go_ret
                exact ⟨rfl, bdrewN (HBW.out.trans (HBI2.out.mono HBW.out.size)) n5⟩
end Go.Proofs.Ytiehfaiadhhndaa
