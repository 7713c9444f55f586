/-
  DiskSizes: the walk.
-/
import Derived.Test.YtiehfaiadhhndaaDskL
namespace Go.Proofs.Ytiehfaiadhhndaa
open Go.RowKit
set_option linter.unusedVariables false
set_option linter.unusedSimpArgs false
set_option linter.unnecessarySimpa false
theorem dk0_len (k : Nat) : (dk0 k).S.length = k := by simp [dk0]
theorem may_in {k : Nat} (h : 1 ≤ k) : mayE (dk0 k) ((k : Int) - 1) = 0 := by
  unfold mayE
  rw [if_neg (by rw [dk0_len]; omega)]; rfl
theorem may_out (k : Nat) : mayE (dk0 k) (k : Int) = 1 := by
  unfold mayE
  rw [if_pos (by rw [dk0_len]; omega)]
theorem write_out (k : Nat) (s : Sc) : writeD (dk0 k) (k : Int) s = (dk0 k, 1) := by
  unfold writeD
  rw [may_out, if_neg (by decide)]
theorem built0 : Try.prog.built 31 [] = some (scF sc0).toArray := by kernel_rfl
set_option maxRecDepth 100000 in
set_option maxHeartbeats 4000000 in
theorem diskSizes_walk (n : Int) (w : World) (hn : -9223372036854775808 ≤ n ∧ n ≤ 9223372036854775807) : Calls Try.prog 3 #[.int .i64 n] w (RetT w true) := by
  by_cases hno : n < 1 ∨ 65536 < n
  · have HN := fun w' => Lib.hid (dnew_no n w' hno)
    have hor : ∀ {Q : Prop}, (n < 1 → Q) → (¬ n < 1 ∧ 65536 < n → Q) → Q := fun h1 h2 => by
      by_cases h : n < 1
      · exact h1 h
      · exact h2 ⟨h, by omega⟩
    refine hor (fun h1 => ?_) (fun ⟨h1, h2⟩ => ?_)
    all_goals
      clear hno hor
      go_enter Try.func3, Try.ntmps3
      go_wp2_with (first
        | (go_at_call 8; go_must (refine (awake03 _).mono ?_; rintro e w1 ⟨rfl, hb1⟩; have HB1 := Lib.hid hb1; clear hb1))
        | (go_at_call 9; go_must (refine (HN _).out.mono ?_; rintro e w2 ⟨rfl, rfl⟩)))
      go_ret
      exact ⟨rfl, HB1.out⟩
  · obtain ⟨k, rfl⟩ : ∃ k : Nat, n = (k : Int) := ⟨n.toNat, by omega⟩
    have hk1 : ¬ ((k : Int) < 1) := by omega
    have hk2 : ¬ (65536 < (k : Int)) := by omega
    have HN := fun w' => Lib.hid (dnew_yes k w' (by omega) (by omega))
    unfold DNewTo at HN
    clear hno
    go_enter Try.func3, Try.ntmps3
    go_upto_region 6 with (first
      | (go_at_call 8; go_must (refine (awake03 _).mono ?_; rintro e w1 ⟨rfl, hb1⟩; have HB1 := Lib.hid hb1; clear hb1))
      | (go_at_call 9; go_must (refine (HN _).out.mono ?_; rintro e w2 ⟨p, gS, rfl, hd2, hb2⟩; have HD2 := Lib.hid hd2; have HB2 := Lib.hid (bnext HB1.out hb2); clear hd2 hb2)))
    have HZ := Lib.hid (dsize_any HD2.out)
    have HDD := Lib.hid (ddead_any HD2.out)
    have HQ := Lib.hid (dqueue_any HD2.out (by simp [dk0]))
    rw [dk0_len] at HZ
    unfold QueTo at HQ
    rw [show (dk0 k).dead = false from rfl] at HDD
    rw [show (dk0 k).Q = [] from rfl] at HQ
    have hw1 := HB1.out.size
    clear HN HB1
    go_upto_region 8 with (first
      | (go_at_call 10; go_must (refine HZ.out.mono ?_; rintro e w3 ⟨rfl, rfl⟩))
      | (go_at_call 11; go_must (refine HDD.out.mono ?_; rintro e w3 ⟨rfl, rfl⟩))
      | (go_at_call 12; go_must (refine HQ.out.mono ?_; rintro e w3 ⟨v3, rfl, ho3, hb3⟩; obtain ⟨s3, c3, rfl⟩ := own_slice1 ho3; rw [List.length_nil]; have HD3 := Lib.hid (HD2.out.below hb3); have HB3 := Lib.hid (bnext HB2.out hb3); have HDE := Lib.hid (ddeeds_any HD3.out); rw [show (dk0 k).deeds = 0 from rfl] at HDE; clear ho3 hb3))
      | (go_at_call 13; go_must (refine HDE.out.mono ?_; rintro e w4 ⟨rfl, rfl⟩)))
    clear HZ HDD HQ HDE HB2 HD2
    have HR := Lib.hid (dread_any ((k : Int) - 1) HD3.out (by simp [dk0]))
    rw [may_in (by omega)] at HR
    unfold RdEnd at HR
    rw [← scF_sec] at HR
    obtain ⟨c1, hc1, hl1, ho1⟩ : ∃ c1 : List Value, scF (readS (dk0 k) ((k : Int) - 1)) = c1 ∧ c1.length = 128 ∧ ∀ v ∈ c1, v.oneCell' = true := ⟨_, rfl, scF_len _, scF_one _⟩
    rw [hc1] at HR
    have hz := zero_sec
    have hwk : wrap64 ((k : Int) - 1) = (k : Int) - 1 := by rw [← i64_w]; exact IntWalk.i64_in _ (by omega)
    go_upto_region 9 with (first
      | (go_at_call 14; go_must (refine HR.out.mono ?_; rintro e w5 ⟨rfl, hb5⟩; have HD5 := Lib.hid (HD3.out.below hb5); have HB5 := Lib.hid (bnext HB3.out hb5); clear hb5))
      | (refine wpList_store_row rfl 31 (.tmp 5) (.tmp 56) rfl w5.heap.size zArr c1.toArray 31 rfl rfl (heap_alloc_last _ _) (by simp only [List.size_toArray]; rw [hl1]; exact size_sec) (by simp [hl1, zArr_size]) (all_oneCell_toArray ho1) ?_))
    rw [World.setRow_alloc_new]
    have hb6 : Below w5.heap.size w5 (w5.alloc (.cells c1.toArray 31)) := (Below.refl _ w5).alloc (Nat.le_refl _) _
    have hD6 := HD5.out.below hb6
    have hB6 := bnext HB5.out hb6
    clear hb6 HR hwk HD3 HB3 HD5 HB5
    revert hD6 hB6
    generalize w5.alloc (.cells c1.toArray 31) = w6
    generalize w5.heap.size = p5
    intro hD6 hB6
    have HR := Lib.hid (dread_any (k : Int) hD6 (by simp [dk0]))
    rw [may_out] at HR
    unfold RdEnd at HR
    rw [← scF_sec] at HR
    obtain ⟨c2, hc2, hl2, ho2⟩ : ∃ c2 : List Value, scF (readS (dk0 k) (k : Int)) = c2 ∧ c2.length = 128 ∧ ∀ v ∈ c2, v.oneCell' = true := ⟨_, rfl, scF_len _, scF_one _⟩
    rw [hc2] at HR
    have HD6 := Lib.hid hD6
    have HB6 := Lib.hid hB6
    clear hD6 hB6
    go_upto_region 10 with (first
      | (go_at_call 14; go_must (refine HR.out.mono ?_; rintro e w7 ⟨rfl, hb7⟩; have HD7 := Lib.hid (HD6.out.below hb7); have HB7 := Lib.hid (bnext HB6.out hb7); clear hb7))
      | (refine wpList_store_row rfl 31 (.tmp 7) (.tmp 62) rfl w7.heap.size zArr c2.toArray 31 rfl rfl (heap_alloc_last _ _) (by simp only [List.size_toArray]; rw [hl2]; exact size_sec) (by simp [hl2, zArr_size]) (all_oneCell_toArray ho2) ?_))
    rw [World.setRow_alloc_new]
    have hb8 : Below w7.heap.size w7 (w7.alloc (.cells c2.toArray 31)) := (Below.refl _ w7).alloc (Nat.le_refl _) _
    have hD8 := HD7.out.below hb8
    have hB8 := bnext HB7.out hb8
    clear hb8 HR HD6 HB6 HD7 HB7
    revert hD8 hB8
    generalize w7.alloc (.cells c2.toArray 31) = w8
    intro hD8 hB8
    have HW := Lib.hid (dwrite_any (k : Int) sc0 hD8 (by simp [dk0]) (by simp [dk0]) (by simp [dk0]))
    rw [write_out, ← scF_sec] at HW
    dsimp only at HW
    have HD8 := Lib.hid hD8
    have HB8 := Lib.hid hB8
    clear hD8 hB8
    go_wp2_with (first
      | (refine wpList_build_at rfl 31 _ rfl [] (by simp) _ built0 ?_)
      | (go_at_call 15; go_must (refine HW.out.mono ?_; intro e w9 hdt; have hb9 := DTo.base HD8.out hdt; obtain ⟨rfl, _⟩ := hdt; have HB9 := Lib.hid hb9; clear hb9)))
    go_ret
    exact ⟨rfl, HB8.out.trans (HB9.out.mono hw1)⟩
end Go.Proofs.Ytiehfaiadhhndaa
