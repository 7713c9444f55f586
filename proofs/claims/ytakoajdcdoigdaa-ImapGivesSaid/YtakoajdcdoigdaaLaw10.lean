/-
  The fixed fact of law 10; the walk of ImapLinks.
-/
import Derived.Test.YtakoajdcdoigdaaMapD
import Derived.Test.YtakoajdcdoigdaaOpen
namespace Go.Proofs.Ytakoajdcdoigdaa
open Go.RowKit
set_option linter.unusedVariables false
set_option linter.unusedSimpArgs false
def RetP (w : World) (p g c : Nat) (L : List Sl) (v : Value) (e : Ending) (w' : World) : Prop := e = .returned v ∧ MapAt w' p g c L ∧ Keep (· = g) w w'
set_option maxHeartbeats 1000000 in
set_option maxRecDepth 10000 in
theorem awake10 (w : World) : Calls Try.prog 6 #[] w (RetT w true) := by
  have HN := Lib.hid (inew_any 2 w)
  have HA := fun w' p g c (h : MapAt w' p g c [sl0, sl0]) => Lib.hid (show Calls Try.prog 9 #[.pointer (some ⟨p, 0, none⟩), .int .i64 1] w' (RetP w' p g c [⟨0, 1, 0, 1⟩, sl0] (.tuple #[.int .i64 1, .int .u32 1, .int .i64 0])) from
    ialloc_yes p g c [sl0, sl0] 0 sl0 1 w' h (by decide) (.inl rfl) rfl rfl)
  have HK := fun p w' => Lib.hid (ialloc_kind p 0 w' (by decide) (by decide))
  have HC := fun w' p g c (h : MapAt w' p g c [⟨0, 1, 0, 1⟩, sl0]) => Lib.hid (show Calls Try.prog 10 #[.pointer (some ⟨p, 0, none⟩)] w' (RetN w' 1) from icount_any p g c _ w' h (by decide))
  unfold NewTo at HN
  go_enter Try.func6, Try.ntmps6
  go_wp2_with (first
    | (go_at_call 7; go_must (refine HN.out.mono ?_; rintro e w1 ⟨p, g, rfl, hp, hg, hm, hb⟩; have HM := Lib.hid (show MapAt w1 p g 2 [sl0, sl0] from hm); have HB := Lib.hid hb; have HPG : Hid (w.heap.size ≤ g) := Lib.hid hg; clear hm hb hp hg))
    | (go_at_call 9; (with_reducible refine (HA w1 p g 2 HM.out).out.mono ?_); rintro e w2 ⟨rfl, hm, hk⟩; have HM2 := Lib.hid hm; have HB2 := Lib.hid (HB.out.trans (hk.below (fun k e => by subst e; exact HPG.out) HB.out.size)); clear hm hk)
    | (go_at_call 9; (with_reducible refine (HK p w2).out.mono ?_); rintro e w3 ⟨rfl, rfl⟩)
    | (go_at_call 10; go_must (refine (HC w2 p g 2 HM2.out).out.mono ?_; rintro e w4 ⟨rfl, hb4⟩; have HB4 := Lib.hid (bnext HB2.out hb4); clear hb4)))
  go_ret
  exact ⟨rfl, HB4.out⟩
def intF (z : Int) : List Value := [.int .i64 z]
theorem intF_len (z : Int) : (intF z).length = 1 := rfl
theorem ints_cell {w : World} {b o : Nat} {L : List Int} {i : Nat} {x : Int} (h : ∀ i x, L[i]? = some x → ∀ j, j < 1 → w.cell? ⟨b, o + i * 1 + j, none⟩ = (intF x)[j]?) (hi : L[i]? = some x) : w.cell? ⟨b, o + i, none⟩ = some (.int .i64 x) := by
  have := h i x hi 0 (by decide)
  simpa [intF] using this
set_option maxHeartbeats 4000000 in
set_option maxRecDepth 10000 in
theorem imapLinks_walk (A : Option Addr) (c : Nat) (B : List Int) (w : World) (hB : B.length ≤ 140737488351232) (hw : ∀ x ∈ B, (Lit.int .i64 x).wf = true) (hv : ReadAt w A intF 1 B) :
    Calls Try.prog 4 #[.slice A B.length c] w (RetT w true) := by
  have HV := Lib.hid hv
  have HW := Lib.hid hw
  clear hv hw
  have HA := fun w' p g c (h : MapAt w' p g c [sl0, sl0, sl0]) => Lib.hid (show Calls Try.prog 9 #[.pointer (some ⟨p, 0, none⟩), .int .i64 1] w' (RetP w' p g c [⟨0, 1, 0, 1⟩, sl0, sl0] (.tuple #[.int .i64 1, .int .u32 1, .int .i64 0])) from
    ialloc_yes p g c [sl0, sl0, sl0] 0 sl0 1 w' h (by decide) (.inl rfl) rfl rfl)
  have HLO := fun w' p g c l n (h : MapAt w' p g c [⟨0, 1, l, 1⟩, sl0, sl0]) (hl : 0 ≤ l ∧ l ≤ 65535) (hn : n < -l ∨ 100 - l < n) => Lib.hid (show Calls Try.prog 11 #[.pointer (some ⟨p, 0, none⟩), .int .i64 1, .int .i64 n] w' (fun e w'' => e = .returned (.tuple #[.int .i64 0, .int .i64 10]) ∧ w' = w'') from
    ilink_out p g c [⟨0, 1, l, 1⟩, sl0, sl0] w' 0 ⟨0, 1, l, 1⟩ n h (by show 3 ≤ 200; omega) rfl (by show (1 : Int) ≠ 0; decide) hl hn)
  have HLY := fun w' p g c l n (h : MapAt w' p g c [⟨0, 1, l, 1⟩, sl0, sl0]) (hl : 0 ≤ l ∧ l ≤ 65535) (h1 : -l ≤ n) (h2 : n ≤ 100 - l) => Lib.hid (show Calls Try.prog 11 #[.pointer (some ⟨p, 0, none⟩), .int .i64 1, .int .i64 n] w' (RetP w' p g c [⟨0, 1, l + n, 1⟩, sl0, sl0] (.tuple #[.int .i64 (l + n), .int .i64 0])) from
    ilink_yes p g c [⟨0, 1, l, 1⟩, sl0, sl0] w' 0 ⟨0, 1, l, 1⟩ n h (by show 3 ≤ 200; omega) rfl (by show (1 : Int) ≠ 0; decide) hl h1 h2)
  have HGE := fun w' p g c l (h : MapAt w' p g c [⟨0, 1, l, 1⟩, sl0, sl0]) => Lib.hid (show Calls Try.prog 12 #[.pointer (some ⟨p, 0, none⟩), .int .i64 1] w' (fun e w'' => e = .returned (.tuple #[.agg #[.int .i64 0, .int .u32 1, .int .i64 l, .int .i64 1], .int .i64 0]) ∧ Below w'.heap.size w' w'') from
    iget_yes p g c [⟨0, 1, l, 1⟩, sl0, sl0] w' 0 ⟨0, 1, l, 1⟩ h (by show 3 ≤ 200; omega) rfl)
  have HC := fun w' p g c l (h : MapAt w' p g c [⟨0, 1, l, 1⟩, sl0, sl0]) => Lib.hid (show Calls Try.prog 10 #[.pointer (some ⟨p, 0, none⟩)] w' (RetN w' 1) from icount_any p g c _ w' h (by show 3 ≤ 200; omega))
  have HN := fun w' => Lib.hid (inew_any 3 w')
  unfold NewTo at HN
  go_enter Try.func4, Try.ntmps4
  go_upto_region 7 with (first
    | (go_at_call 6; go_must (refine (awake10 _).mono ?_; rintro e w0 ⟨rfl, hb⟩; have HB0 := Lib.hid hb; clear hb))
    | (go_at_call 7; go_must (refine (HN w0).out.mono ?_; rintro e w1 ⟨p, g, rfl, hp, hg, hm, hb⟩; have HM := Lib.hid (show MapAt w1 p g 3 [sl0, sl0, sl0] from hm); have HB := Lib.hid (bnext HB0.out hb); have HPG : Hid (w.heap.size ≤ g) := Lib.hid (Nat.le_trans HB0.out.size hg); clear hm hb hp hg))
    | (go_at_call 9; go_must (refine (HA w1 p g 3 HM.out).out.mono ?_; rintro e w2 ⟨rfl, hm, hk⟩; have HM2 := Lib.hid hm; have HB2 := Lib.hid (HB.out.trans (hk.below (fun k e => by subst e; exact HPG.out) HB.out.size)); clear hm hk)))
  clear HA HN HM HB HB0
  go_wp2
  go_loopw [7, 8] (fun lv iv wr => ∃ (l : Int) (i : Nat), 0 ≤ l ∧ l ≤ 100 ∧ i ≤ B.length ∧ i ≤ 60 ∧ lv = .int .i64 l ∧ iv = .int .i64 (i : Int) ∧ Hid (MapAt wr p g 3 [⟨0, 1, l, 1⟩, sl0, sl0]) ∧ Hid (Below w.heap.size w wr)) (fun _ iv _ => (60 - intOf iv).toNat)
  case atStart => exact ⟨0, 0, by omega, by omega, by omega, by omega, by rfl, by rfl, HM2, HB2⟩
  case round =>
    obtain ⟨l, i, hl0, hl1, hiB, hi60, rfl, rfl, HM, HB⟩ := hrel
    clear HM2 HB2
    by_cases hlt : i < B.length ∧ i < 60
    · obtain ⟨hi1, hi2⟩ := hlt
      obtain ⟨x, hx⟩ : ∃ x, B[i]? = some x := ⟨_, List.getElem?_eq_getElem hi1⟩
      have hxm : x ∈ B := List.mem_of_getElem? hx
      obtain ⟨b, o, hA, hcell⟩ := HV.out (fun e => by rw [e] at hi1; exact absurd hi1 (Nat.not_lt_zero _))
      subst hA
      have HX := Lib.hid (ints_cell hcell hx)
      have hc : wr.cell? ⟨b, o + i, none⟩ = some (.int .i64 x) := (HB.out.cell (p := ⟨b, o + i, none⟩) (World.block_lt_of_cell? w _ HX.out)).trans HX.out
      clear hcell hx hxm
      by_cases hout : x < -l ∨ 100 - l < x
      · have HL := Lib.hid (HLO wr p g 3 l x HM.out ⟨hl0, by omega⟩ hout).out
        by_cases h1 : x < -l
        · clear hout
          go_wp2_with (first
            | (go_at_call 11; go_must (refine HL.out.mono ?_; rintro e w3 ⟨rfl, rfl⟩)))
          exact ⟨⟨l, i + 1, hl0, hl1, by omega, by omega, rfl, by go_num, HM, HB⟩, by simp [intOf]; omega⟩
        · have h2 : 100 - l < x := by omega
          clear hout
          go_wp2_with (first
            | (go_at_call 11; go_must (refine HL.out.mono ?_; rintro e w3 ⟨rfl, rfl⟩)))
          exact ⟨⟨l, i + 1, hl0, hl1, by omega, by omega, rfl, by go_num, HM, HB⟩, by simp [intOf]; omega⟩
      · have h1 : ¬ x < -l := fun h => hout (.inl h)
        have h2 : ¬ 100 - l < x := fun h => hout (.inr h)
        clear hout
        have HL := Lib.hid (HLY wr p g 3 l x HM.out ⟨hl0, by omega⟩ (by omega) (by omega)).out
        have hs0 : 0 ≤ l + x := by omega
        have hs1 : l + x ≤ 100 := by omega
        go_wp2_with (first
          | (go_at_call 11; go_must (refine HL.out.mono ?_; rintro e w3 ⟨rfl, hm, hk⟩; have HM3 := Lib.hid hm; have hb3 : Below w.heap.size w w3 := HB.out.trans (hk.below (fun k e => by subst e; exact HPG.out) HB.out.size); have HB3 := Lib.hid hb3; have hc3 : w3.cell? ⟨b, o + i, none⟩ = some (.int .i64 x) := (hb3.cell (p := ⟨b, o + i, none⟩) (World.block_lt_of_cell? w _ HX.out)).trans HX.out; clear hm hk hb3)))
        exact ⟨⟨l + x, i + 1, hs0, hs1, by omega, by omega, by rfl, by go_num, HM3, HB3⟩, by simp [intOf]; omega⟩
    · have HGT := Lib.hid (HGE wr p g 3 l HM.out).out
      by_cases h1 : i < B.length
      · have h2 : ¬ i < 60 := fun h => hlt ⟨h1, h⟩
        clear hlt
        go_upto_region 19 with (first
          | (go_at_call 12; go_must (refine HGT.out.mono ?_; rintro e w4 ⟨rfl, hb4⟩; have HM4 := Lib.hid (HM.out.below hb4); have HB4 := Lib.hid (bnext HB.out hb4); clear hb4)))
        have hal := (Below.refl w4.heap.size w4).alloc (Nat.le_refl _) (.cells #[.int .i64 0, .int .u32 1, .int .i64 l, .int .i64 1] 42 (0, 0))
        have HCT := HC _ p g 3 l (HM4.out.below hal)
        have HB5 := Lib.hid (bnext HB4.out hal)
        clear hal
        go_wp2_with (first
          | (go_at_call 10; go_must (refine HCT.out.mono ?_; rintro e w6 ⟨rfl, hb6⟩; have HB6 := Lib.hid (bnext HB5.out hb6); clear hb6)))
        go_ret
        exact ⟨rfl, HB6.out⟩
      · clear hlt
        go_upto_region 19 with (first
          | (go_at_call 12; go_must (refine HGT.out.mono ?_; rintro e w4 ⟨rfl, hb4⟩; have HM4 := Lib.hid (HM.out.below hb4); have HB4 := Lib.hid (bnext HB.out hb4); clear hb4)))
        have hal := (Below.refl w4.heap.size w4).alloc (Nat.le_refl _) (.cells #[.int .i64 0, .int .u32 1, .int .i64 l, .int .i64 1] 42 (0, 0))
        have HCT := HC _ p g 3 l (HM4.out.below hal)
        have HB5 := Lib.hid (bnext HB4.out hal)
        clear hal
        go_wp2_with (first
          | (go_at_call 10; go_must (refine HCT.out.mono ?_; rintro e w6 ⟨rfl, hb6⟩; have HB6 := Lib.hid (bnext HB5.out hb6); clear hb6)))
        go_ret
        exact ⟨rfl, HB6.out⟩
end Go.Proofs.Ytakoajdcdoigdaa
