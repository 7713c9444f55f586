/-
  DiskArms: the plain law and the walk.
-/
import Derived.Test.YtiehfaiadhhndaaDskM
namespace Go.Proofs.Ytiehfaiadhhndaa
open Go.RowKit
attribute [local go_sem] maxI_two minI_two
set_option linter.unusedVariables false
set_option linter.unusedSimpArgs false
set_option linter.unnecessarySimpa false
def intF (z : Int) : List Value := [.int .i64 z]
theorem intF_len (z : Int) : (intF z).length = 1 := rfl
/-- What an armed disk keeps. -/
structure ArmJ (D : Dk) (n g i : Nat) : Prop where
  len : D.S.length = 5
  arm : D.arm = (n : Int) - (g : Int)
  deeds : D.deeds = (g : Int)
  le : g ≤ n
  dead : D.dead = true → g = n
  ql : D.Q.length ≤ i
  qa : ∀ q ∈ D.Q, 0 ≤ q.at_ ∧ q.at_ < 5
theorem ArmJ.ok {D : Dk} {n g i m : Nat} (h : ArmJ D n g i) (hn : n ≤ 50) (hi : i ≤ m) (hm : 50 ≤ m) : DOk D m :=
  ⟨by rw [h.arm]; have := h.le; omega, by rw [h.deeds]; have := h.le; omega, by have := h.ql; omega, by rw [h.len]; exact h.qa⟩
/-- What one act comes to: a deed more; or the end. -/
def ArmStep (D D' : Dk) (e : Int) (n g i : Nat) : Prop := (e = 0 ∧ D.dead = false ∧ g < n ∧ ArmJ D' n (g + 1) (i + 1)) ∨ (e = 20 ∧ D'.dead = true ∧ g = n ∧ ArmJ D' n g (i + 1))
theorem arm_flush {D : Dk} {n g i : Nat} (h : ArmJ D n g i) : ArmStep D (flushD D).1 (flushD D).2 n g i := by
  unfold flushD
  cases hd : D.dead with
  | true =>
    rw [if_pos rfl]
    exact .inr ⟨rfl, hd, h.dead hd, ⟨h.len, h.arm, h.deeds, h.le, h.dead, Nat.le_succ_of_le h.ql, h.qa⟩⟩
  | false =>
    rw [if_neg (by simp)]
    by_cases ha : D.arm = 0
    · rw [if_pos ha]
      unfold deedD
      rw [if_pos ha]
      have hg : g = n := by have := h.arm; have := h.le; omega
      exact .inr ⟨rfl, rfl, hg, ⟨h.len, h.arm, h.deeds, h.le, fun _ => hg, Nat.le_succ_of_le h.ql, h.qa⟩⟩
    · rw [if_neg ha]
      have hg : g < n := by have := h.arm; have := h.le; omega
      refine .inl ⟨rfl, hd, hg, ?_⟩
      unfold deedD
      rw [if_neg ha]
      have hp : 0 < D.arm := by have := h.arm; omega
      refine ⟨?_, ?_, ?_, by omega, ?_, by simp, fun q hq => by simp at hq⟩
      · show (layS D.S D.Q).length = 5
        rw [layS_len]; exact h.len
      · show (if 0 < D.arm then D.arm - 1 else D.arm) = _
        rw [if_pos hp, h.arm]; omega
      · show D.deeds + 1 = _
        rw [h.deeds]; omega
      · intro hx
        have hx : D.dead = true := hx
        rw [hd] at hx; cases hx
theorem arm_write {D : Dk} {n g i : Nat} (h : ArmJ D n g i) (x : Int) (s : Sc) (hx : 0 ≤ x ∧ x ≤ 4) : ArmStep D (writeD D x s).1 (writeD D x s).2 n g i := by
  have hm : mayE D x = if D.dead then 20 else 0 := by unfold mayE; rw [if_neg (show ¬ (x < 0 ∨ (D.S.length : Int) ≤ x) by rw [h.len]; omega)]
  by_cases hd : D.dead = true
  · have hw : writeD D x s = (D, 20) := by unfold writeD; rw [hm, if_pos hd, if_neg (by decide)]
    rw [hw]
    exact .inr ⟨rfl, hd, h.dead hd, ⟨h.len, h.arm, h.deeds, h.le, h.dead, Nat.le_succ_of_le h.ql, h.qa⟩⟩
  · have hd : D.dead = false := by simpa using hd
    have hw : writeD D x s = deedD { D with Q := D.Q ++ [⟨x, s⟩] } := by
      have hm0 : mayE D x = 0 := by rw [hm, hd]; rfl
      unfold writeD; rw [hm0, if_pos rfl]
    rw [hw]
    have hqa : ∀ q ∈ D.Q ++ [⟨x, s⟩], 0 ≤ q.at_ ∧ q.at_ < 5 := fun q hq => by
      rcases List.mem_append.1 hq with hq | hq
      · exact h.qa q hq
      · simp only [List.mem_singleton] at hq; subst hq; dsimp only; omega
    have hql : (D.Q ++ [(⟨x, s⟩ : Wr)]).length ≤ i + 1 := by have := h.ql; simp; omega
    unfold deedD
    by_cases ha : D.arm = 0
    · rw [if_pos ha]
      have hg : g = n := by have := h.arm; have := h.le; omega
      exact .inr ⟨rfl, rfl, hg, ⟨h.len, h.arm, h.deeds, h.le, fun _ => hg, hql, hqa⟩⟩
    · rw [if_neg ha]
      have hg : g < n := by have := h.arm; have := h.le; omega
      have hp : 0 < D.arm := by have := h.arm; omega
      refine .inl ⟨rfl, hd, hg, ⟨h.len, ?_, ?_, by omega, ?_, hql, hqa⟩⟩
      · show (if 0 < D.arm then D.arm - 1 else D.arm) = _
        rw [if_pos hp, h.arm]; omega
      · show D.deeds + 1 = _
        rw [h.deeds]; omega
      · intro hx
        have hx : D.dead = true := hx
        rw [hd] at hx; cases hx
theorem arm_out {D : Dk} {n g i : Nat} (h : ArmJ D n g i) (x : Int) (s : Sc) (hx : x < 0 ∨ 4 < x) : writeD D x s = (D, 1) := by
  have : mayE D x = 1 := by unfold mayE; rw [if_pos (by rw [h.len]; omega)]
  unfold writeD
  rw [this, if_neg (by decide)]
theorem built1 : Try.prog.built 31 [(0, .int .u8 1)] = some (scF (scB 1)).toArray := by kernel_rfl
set_option maxRecDepth 100000 in
set_option maxHeartbeats 8000000 in
theorem diskArms_walk (n0 : Int) (A : Option Addr) (c : Nat) (B : List Int) (w : World) (hB : B.length ≤ 140737488351232) (hv : ReadAt w A intF 1 B) :
    Calls Try.prog 4 #[.int .i64 n0, .slice A B.length c] w (RetT w true) := by
  have HV := Lib.hid hv
  clear hv
  obtain ⟨n, hn1, hn2⟩ : ∃ n : Nat, mxI 0 (mnI n0 50) = (n : Int) ∧ n ≤ 50 := ⟨(mxI 0 (mnI n0 50)).toNat, by unfold mxI mnI; split <;> split <;> omega, by unfold mxI mnI; split <;> split <;> omega⟩
  have HN := fun w' => Lib.hid (dnew_yes 5 w' (by decide) (by decide))
  unfold DNewTo at HN
  have hAD : armD (dk0 5) (n : Int) = { dk0 5 with arm := (n : Int) } := by
    unfold armD
    rw [if_neg (by simp [dk0])]
    have : mxI (n : Int) (-1) = (n : Int) := by unfold mxI; split <;> omega
    rw [this]
  have HAD := Lib.hid hAD
  clear hAD
  go_enter Try.func4, Try.ntmps4
  go_upto_region 7 with (first
    | (go_at_call 8; go_must (refine (awake03 _).mono ?_; rintro e w1 ⟨rfl, hb1⟩; have HB1 := Lib.hid hb1; clear hb1))
    | (go_at_call 9; go_must (refine (HN _).out.mono ?_; rintro e w2 ⟨p, gS, rfl, hd2, hb2⟩; have HD2 := Lib.hid hd2; have HB2 := Lib.hid (bnext HB1.out hb2); clear hd2 hb2)))
  have hbs : w.heap.size ≤ w1.heap.size := HB1.out.size
  have HR := Lib.hid (darm_any (n : Int) HD2.out)
  unfold HeadTo at HR
  rw [HAD.out] at HR
  clear HN HB1 HAD
  revert HD2 hbs HR
  generalize w1.heap.size = bs
  intro HD2 hbs HR
  go_upto_region 8 with (first
    | (go_at_call 16; go_must (refine HR.out.mono ?_; rintro e w3 ⟨rfl, hd3, hk3⟩; have HD3 := Lib.hid hd3; have HB3 := Lib.hid (HB2.out.trans (hk3.below (fun k e => by subst e; exact Nat.le_trans hbs HD2.out.bp) HB2.out.size)); clear hd3 hk3)))
  have HJ0 : Hid (ArmJ { dk0 5 with arm := (n : Int) } n 0 0) := Lib.hid ⟨by simp [dk0], by simp, rfl, by omega, fun h => by simp [dk0] at h, by simp [dk0], fun q hq => by simp [dk0] at hq⟩
  clear HR HD2 HB2
  go_wp2
  go_loopw [7, 8] (fun gv iv wr => ∃ (i g : Nat) (D : Dk) (vq : Value), i ≤ 60 ∧ i ≤ B.length ∧ g ≤ 50 ∧ gv = .int .i64 (g : Int) ∧ iv = .int .i64 (i : Int) ∧ Hid (DkAt wr bs p gS vq D) ∧ Hid (ArmJ D n g i) ∧ Hid (Below w.heap.size w wr)) (fun _ iv _ => (60 - intOf iv).toNat)
  case atStart => exact ⟨0, 0, _, _, by omega, by omega, by omega, by rfl, by rfl, HD3, HJ0, HB3⟩
  case round =>
    clear HD3 HJ0 HB3
    obtain ⟨i, g, D, vq, hi60, hiB, hg50, rfl, rfl, HD, HJ, HB⟩ := hrel
    by_cases hlt : i < B.length ∧ i < 60
    · obtain ⟨hi1, hi2⟩ := hlt
      obtain ⟨x, hx⟩ : ∃ x, B[i]? = some x := ⟨_, List.getElem?_eq_getElem hi1⟩
      obtain ⟨b, o, hA, hcell⟩ := HV.out (fun e => by rw [e] at hi1; exact absurd hi1 (Nat.not_lt_zero _))
      subst hA
      have hcw : w.cell? ⟨b, o + i, none⟩ = some (.int .i64 x) := by
        have := hcell i x hx 0 (by decide)
        simpa [intF] using this
      have hbw := World.block_lt_of_cell? w _ hcw
      have q0 : wr.cell? ⟨b, o + i, none⟩ = some (.int .i64 x) := (HB.out.cell (p := ⟨b, o + i, none⟩) hbw).trans hcw
      have HCW := Lib.hid hcw
      have HDD := Lib.hid (ddead_any HD.out)
      clear hcell hcw hx
      by_cases hx5 : x = 5
      · have HS := Lib.hid (arm_flush HJ.out)
        have HFL := Lib.hid (dflush_any HD.out (m := 60) (by decide) (HJ.out.ok hn2 (by omega) (by decide)))
        subst hx5
        revert HS HFL
        generalize (flushD D).1 = D'
        generalize (flushD D).2 = e'
        intro HS HFL
        unfold ArmStep at HS
        rcases HS.out with ⟨rfl, hdd, hgn, hJ'⟩ | ⟨rfl, hdd, hgn, hJ'⟩
        · rw [hdd] at HDD
          have HJ' := Lib.hid hJ'
          have hgi : (g : Int) < (n : Int) := by omega
          clear hJ' HS hdd
          go_wp2_with (first
            | (go_at_call 11; go_must (refine HDD.out.mono ?_; rintro e w4 ⟨rfl, rfl⟩))
            | (go_at_call 17; go_must (refine HFL.out.mono ?_; intro e w5 hdt; have hb5 := DTo.base HD.out hdt; obtain ⟨rfl, vq5, hd5, _, _⟩ := hdt; have HD5 := Lib.hid hd5; have HB5 := Lib.hid (HB.out.trans (hb5.mono hbs)); clear hd5 hb5)))
          exact ⟨⟨i + 1, g + 1, _, _, by omega, by omega, by omega, by go_num, by go_num, HD5, HJ', HB5⟩, by simp [intOf]; omega⟩
        · have HJ' := Lib.hid hJ'
          have HDT := Lib.hid hdd
          have hgi : ¬ ((g : Int) < (n : Int)) := by omega
          subst hgn
          clear hJ' HS hdd
          cases hD : D.dead with
          | true =>
            rw [hD] at HDD
            go_wp2_with (first
              | (go_at_call 11; go_must (refine HDD.out.mono ?_; rintro e w4 ⟨rfl, rfl⟩))
              | (go_at_call 17; go_must (refine HFL.out.mono ?_; intro e w5 hdt; have hb5 := DTo.base HD.out hdt; obtain ⟨rfl, vq5, hd5, _, _⟩ := hdt; have HD5 := Lib.hid hd5; have HB5 := Lib.hid (HB.out.trans (hb5.mono hbs)); have HDD := Lib.hid (ddead_any HD5.out); rw [HDT.out] at HDD; clear hd5 hb5)))
            exact ⟨⟨i + 1, g, _, _, by omega, by omega, by omega, by go_num, by go_num, HD5, HJ', HB5⟩, by simp [intOf]; omega⟩
          | false =>
            rw [hD] at HDD
            go_wp2_with (first
              | (go_at_call 11; go_must (refine HDD.out.mono ?_; rintro e w4 ⟨rfl, rfl⟩))
              | (go_at_call 17; go_must (refine HFL.out.mono ?_; intro e w5 hdt; have hb5 := DTo.base HD.out hdt; obtain ⟨rfl, vq5, hd5, _, _⟩ := hdt; have HD5 := Lib.hid hd5; have HB5 := Lib.hid (HB.out.trans (hb5.mono hbs)); have HDD := Lib.hid (ddead_any HD5.out); rw [HDT.out] at HDD; clear hd5 hb5)))
            exact ⟨⟨i + 1, g, _, _, by omega, by omega, by omega, by go_num, by go_num, HD5, HJ', HB5⟩, by simp [intOf]; omega⟩
      · have hx5' : (x == 5) = false := by simpa using hx5
        have HFL := Lib.hid (dwrite_any x (scB 1) HD.out (by have := HJ.out.ql; omega) (HJ.out.ok hn2 (show i ≤ 60 by omega) (by decide)).arm ⟨(HJ.out.ok hn2 (show i ≤ 60 by omega) (by decide)).deeds.1, by have := (HJ.out.ok hn2 (show i ≤ 60 by omega) (by decide)).deeds.2; omega⟩)
        by_cases hxo : x < 0 ∨ 4 < x
        · rw [arm_out HJ.out x (scB 1) hxo, ← scF_sec] at HFL
          dsimp only at HFL
          have HJ' : Hid (ArmJ D n g (i + 1)) := Lib.hid ⟨HJ.out.len, HJ.out.arm, HJ.out.deeds, HJ.out.le, HJ.out.dead, by have := HJ.out.ql; omega, HJ.out.qa⟩
          have hor : ∀ {Q : Prop}, (x < 0 → Q) → (¬ x < 0 ∧ 4 < x → Q) → Q := fun h1 h2 => by
            by_cases h : x < 0
            · exact h1 h
            · exact h2 ⟨h, by omega⟩
          refine hor (fun h1 => ?_) (fun ⟨h1, h2⟩ => ?_)
          all_goals
            clear hor hxo
            go_wp2_with (first
              | (refine wpList_build_at rfl 31 _ rfl [(0, .int .u8 1)] (by simp [Act.eval]) _ built1 ?_)
              | (go_at_call 11; go_must (refine HDD.out.mono ?_; rintro e w4 ⟨rfl, rfl⟩))
              | (go_at_call 15; go_must (refine HFL.out.mono ?_; intro e w5 hdt; have hb5 := DTo.base HD.out hdt; obtain ⟨rfl, vq5, hd5, _, _⟩ := hdt; have HD5 := Lib.hid hd5; have hB5 := HB.out.trans (hb5.mono hbs); have q5 : w5.cell? ⟨b, o + i, none⟩ = some (.int .i64 x) := (hB5.cell (p := ⟨b, o + i, none⟩) hbw).trans HCW.out; have HB5 := Lib.hid hB5;  clear hd5 hb5 hB5)))
            exact ⟨⟨i + 1, g, _, _, by omega, by omega, by omega, by go_num, by go_num, HD5, HJ', HB5⟩, by simp [intOf]; omega⟩
        · have HS := Lib.hid (arm_write HJ.out x (scB 1) (by omega))
          rw [← scF_sec] at HFL
          have h1 : ¬ x < 0 := by omega
          have h2 : ¬ 4 < x := by omega
          clear hxo
          revert HS HFL
          generalize (writeD D x (scB 1)).1 = D'
          generalize (writeD D x (scB 1)).2 = e'
          intro HFL HS
          unfold ArmStep at HS
          rcases HS.out with ⟨rfl, hdd, hgn, hJ'⟩ | ⟨rfl, hdd, hgn, hJ'⟩
          · rw [hdd] at HDD
            have HJ' := Lib.hid hJ'
            have hgi : (g : Int) < (n : Int) := by omega
            clear hJ' HS hdd
            go_wp2_with (first
              | (refine wpList_build_at rfl 31 _ rfl [(0, .int .u8 1)] (by simp [Act.eval]) _ built1 ?_)
              | (go_at_call 11; go_must (refine HDD.out.mono ?_; rintro e w4 ⟨rfl, rfl⟩))
              | (go_at_call 15; go_must (refine HFL.out.mono ?_; intro e w5 hdt; have hb5 := DTo.base HD.out hdt; obtain ⟨rfl, vq5, hd5, _, _⟩ := hdt; have HD5 := Lib.hid hd5; have hB5 := HB.out.trans (hb5.mono hbs); have q5 : w5.cell? ⟨b, o + i, none⟩ = some (.int .i64 x) := (hB5.cell (p := ⟨b, o + i, none⟩) hbw).trans HCW.out; have HB5 := Lib.hid hB5;  clear hd5 hb5 hB5)))
            exact ⟨⟨i + 1, g + 1, _, _, by omega, by omega, by omega, by go_num, by go_num, HD5, HJ', HB5⟩, by simp [intOf]; omega⟩
          · have HJ' := Lib.hid hJ'
            have HDT := Lib.hid hdd
            have hgi : ¬ ((g : Int) < (n : Int)) := by omega
            subst hgn
            clear hJ' HS hdd
            cases hD : D.dead with
            | true =>
              rw [hD] at HDD
              go_wp2_with (first
                | (refine wpList_build_at rfl 31 _ rfl [(0, .int .u8 1)] (by simp [Act.eval]) _ built1 ?_)
                | (go_at_call 11; go_must (refine HDD.out.mono ?_; rintro e w4 ⟨rfl, rfl⟩))
                | (go_at_call 15; go_must (refine HFL.out.mono ?_; intro e w5 hdt; have hb5 := DTo.base HD.out hdt; obtain ⟨rfl, vq5, hd5, _, _⟩ := hdt; have HD5 := Lib.hid hd5; have hB5 := HB.out.trans (hb5.mono hbs); have q5 : w5.cell? ⟨b, o + i, none⟩ = some (.int .i64 x) := (hB5.cell (p := ⟨b, o + i, none⟩) hbw).trans HCW.out; have HB5 := Lib.hid hB5; have HDD := Lib.hid (ddead_any HD5.out); rw [HDT.out] at HDD; clear hd5 hb5 hB5)))
              exact ⟨⟨i + 1, g, _, _, by omega, by omega, by omega, by go_num, by go_num, HD5, HJ', HB5⟩, by simp [intOf]; omega⟩
            | false =>
              rw [hD] at HDD
              go_wp2_with (first
                | (refine wpList_build_at rfl 31 _ rfl [(0, .int .u8 1)] (by simp [Act.eval]) _ built1 ?_)
                | (go_at_call 11; go_must (refine HDD.out.mono ?_; rintro e w4 ⟨rfl, rfl⟩))
                | (go_at_call 15; go_must (refine HFL.out.mono ?_; intro e w5 hdt; have hb5 := DTo.base HD.out hdt; obtain ⟨rfl, vq5, hd5, _, _⟩ := hdt; have HD5 := Lib.hid hd5; have hB5 := HB.out.trans (hb5.mono hbs); have q5 : w5.cell? ⟨b, o + i, none⟩ = some (.int .i64 x) := (hB5.cell (p := ⟨b, o + i, none⟩) hbw).trans HCW.out; have HB5 := Lib.hid hB5; have HDD := Lib.hid (ddead_any HD5.out); rw [HDT.out] at HDD; clear hd5 hb5 hB5)))
              exact ⟨⟨i + 1, g, _, _, by omega, by omega, by omega, by go_num, by go_num, HD5, HJ', HB5⟩, by simp [intOf]; omega⟩
    · have HDE := Lib.hid (ddeeds_any HD.out)
      rw [HJ.out.deeds] at HDE
      have hex : ∀ {Q : Prop}, (¬ (i < B.length) → Q) → (i < B.length ∧ ¬ (i < 60) → Q) → Q := fun h1 h2 => by
        by_cases h : i < B.length
        · exact h2 ⟨h, fun e => hlt ⟨h, e⟩⟩
        · exact h1 h
      refine hex (fun h1 => ?_) (fun ⟨h1, h2⟩ => ?_)
      all_goals
        clear hex hlt
        go_wp2_with (first
          | (go_at_call 13; go_must (refine HDE.out.mono ?_; rintro e w4 ⟨rfl, rfl⟩)))
        go_ret
        exact ⟨rfl, HB.out⟩
end Go.Proofs.Ytiehfaiadhhndaa
