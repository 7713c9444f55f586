/-
  Disk: the law's awake.
-/
import Derived.Test.YtiehfaiadhhndaaDskI
namespace Go.Proofs.Ytiehfaiadhhndaa
open Go.RowKit
set_option linter.unusedVariables false
set_option linter.unusedSimpArgs false
set_option linter.unnecessarySimpa false
def scB (n : UInt8) : Sc := ⟨n :: List.replicate 127 0, by simp⟩
theorem built5 : Try.prog.built 31 [(0, .int .u8 5)] = some (scF (scB 5)).toArray := by kernel_rfl
theorem built6 : Try.prog.built 31 [(0, .int .u8 6)] = some (scF (scB 6)).toArray := by kernel_rfl
theorem scF_sec (s : Sc) : Value.agg (scF s).toArray = secV s.1 := rfl
theorem DTo.base {w w' : World} {base p gS : Nat} {vq : Value} {D D' : Dk} {v : Value} {e : Ending} (h : DkAt w base p gS vq D) (hd : DTo w base p gS vq D' v e w') : Below base w w' := by
  obtain ⟨_, vq', h1, h2, h3⟩ := hd
  have hb : base ≤ w.heap.size := by have := h.bp; have := h.lt.1; omega
  refine h2.below (fun k hk => ?_) hb
  rcases hk with rfl | rfl | hk
  · exact h.bp
  · exact h.bS
  · exact (h.que.lt k hk).1
def dkA : Dk := ⟨[sc0, sc0], [⟨1, scB 5⟩], false, -1, 1, 2⟩
def dkB : Dk := ⟨[sc0, sc0], [⟨1, scB 5⟩, ⟨1, scB 6⟩], false, -1, 2, 2⟩
def dkC : Dk := ⟨[sc0, scB 5], [], false, -1, 2, 2⟩
theorem wA : writeD (dk0 2) 1 (scB 5) = (dkA, 0) := rfl
theorem wB : writeD dkA 1 (scB 6) = (dkB, 0) := rfl
theorem rB : readS dkB 1 = scB 6 := rfl
theorem rBe : mayE dkB 1 = 0 := rfl
theorem cB : crashD dkB [true] = dkC := rfl
theorem rC : readS dkC 1 = scB 5 := rfl
theorem rCe : mayE dkC 1 = 0 := rfl
theorem okB : DOk dkB 2 := ⟨by decide, by decide, by decide, by decide⟩
set_option maxRecDepth 100000 in
set_option maxHeartbeats 4000000 in
theorem awake03 (w : World) : Calls Try.prog 8 #[] w (RetT w true) := by
  have HN := Lib.hid (dnew_yes 2 w (by decide) (by decide))
  unfold DNewTo at HN
  go_enter Try.func8, Try.ntmps8
  go_upto_region 4 with (first
    | (go_at_call 9; go_must (refine HN.out.mono ?_; rintro e w1 ⟨p, gS, rfl, hd1, hb1⟩; have HD1 := Lib.hid hd1; have HB1 := Lib.hid hb1; clear hd1 hb1)))
  have HW := Lib.hid (dwrite_any 1 (scB 5) HD1.out (by decide) (by decide) (by decide))
  rw [wA, ← scF_sec] at HW
  go_upto_region 5 with (first
    | (refine wpList_build_at rfl 31 _ rfl [(0, .int .u8 5)] (by simp [Act.eval]) _ built5 ?_)
    | (go_at_call 15; go_must (refine HW.out.mono ?_; intro e w2 hdt; have hb2 := DTo.base HD1.out hdt; obtain ⟨rfl, vq2, hd2, hk2, hq2⟩ := hdt; have HD2 := Lib.hid hd2; have HB2 := Lib.hid (HB1.out.trans hb2); clear hd2 hk2 hq2 hb2)))
  clear HW HD1 HB1 HN
  have HW := Lib.hid (dwrite_any 1 (scB 6) HD2.out (by decide) (by decide) (by decide))
  rw [wB, ← scF_sec] at HW
  go_upto_region 6 with (first
    | (refine wpList_build_at rfl 31 _ rfl [(0, .int .u8 6)] (by simp [Act.eval]) _ built6 ?_)
    | (go_at_call 15; go_must (refine HW.out.mono ?_; intro e w3 hdt; have hb3 := DTo.base HD2.out hdt; obtain ⟨rfl, vq3, hd3, hk3, hq3⟩ := hdt; have HD3 := Lib.hid hd3; have HB3 := Lib.hid (HB2.out.trans hb3); clear hd3 hk3 hq3 hb3)))
  clear HW HD2 HB2
  have HR := Lib.hid (dread_any 1 HD3.out (by decide))
  rw [rB, rBe] at HR
  unfold RdEnd at HR
  rw [← scF_sec] at HR
  have hz := zero_sec
  obtain ⟨c6, hc6, hl6, ho6⟩ : ∃ c6 : List Value, scF (scB 6) = c6 ∧ c6.length = 128 ∧ ∀ v ∈ c6, v.oneCell' = true := ⟨_, rfl, scF_len _, scF_one _⟩
  rw [hc6] at HR
  have h60 : c6[0]? = some (.int .u8 6) := by rw [← hc6]; rfl
  go_upto_region 7 with (first
    | (go_at_call 14; go_must (refine HR.out.mono ?_; rintro e w4 ⟨rfl, hb4⟩; have HD4 := Lib.hid (HD3.out.below hb4); have HB4 := Lib.hid (bnext HB3.out hb4); clear hb4))
    | (refine wpList_store_row rfl 31 (.tmp 3) (.tmp 25) rfl w4.heap.size zArr c6.toArray 31 rfl rfl (heap_alloc_last _ _) (by simp only [List.size_toArray]; rw [hl6]; exact size_sec) (by simp [hl6, zArr_size]) (all_oneCell_toArray ho6) ?_))
  rw [World.setRow_alloc_new]
  have hS5 := new_heap w4 (.cells c6.toArray 31 (0, 0))
  have hb5 : Below w4.heap.size w4 (w4.alloc (.cells c6.toArray 31)) := (Below.refl _ w4).alloc (Nat.le_refl _) _
  have hD5 := HD4.out.below hb5
  have hB5 := bnext HB4.out hb5
  have hF4 : ¬ Ft p gS vq3 w4.heap.size := fun h => by
    obtain ⟨l1, l2, l3⟩ := HD4.out.lt
    rcases h with h | h | h
    · omega
    · omega
    · have := l3 _ h; omega
  clear hb5 HR
  revert hS5 hD5 hB5 hF4
  generalize w4.alloc (.cells c6.toArray 31) = w5
  generalize w4.heap.size = p4
  intro hS5 hD5 hB5 hF4
  have hb6 : Below w5.heap.size w5 (w5.alloc (.cells #[.bool true] 4)) := (Below.refl _ w5).alloc (Nat.le_refl _) _
  have hD6 := hD5.below hb6
  have hB6 := bnext hB5 hb6
  have hS6 := old_heap hS5 hb6
  have hra : ReadAt (w5.alloc (.cells #[.bool true] 4)) (some ⟨w5.heap.size, 0, none⟩) boF 1 [true] := fun _ => ⟨w5.heap.size, 0, rfl, fun i x hi j hj => by
    have h1 : i = 0 := by have := (List.getElem?_eq_some_iff.1 hi).1; simp at this; exact this
    subst h1
    have h2 : j = 0 := by omega
    subst h2
    have h3 : true = x := by simpa using hi
    subst h3
    exact cell_row (new_heap w5 (.cells #[.bool true] 4 (0, 0))) 0⟩
  have HC := Lib.hid (dcrash_any hD6 (m := 2) (by decide) okB (some ⟨w5.heap.size, 0, none⟩) 1 [true] hra)
  rw [cB] at HC
  have HD6 := Lib.hid hD6
  have HB6 := Lib.hid hB6
  have HS6 := Lib.hid hS6
  clear hD5 hB5 hS5 hb6 hD6 hB6 hS6 hra HD4 HB4 HD3 HB3
  go_upto_region 8 with (first
    | (go_at_call 22; go_must (refine HC.out.mono ?_; intro e w7 hdt; have hb7 := DTo.base HD6.out hdt; obtain ⟨rfl, vq7, hd7, hk7, hq7⟩ := hdt; have HD7 := Lib.hid hd7; have HB7 := Lib.hid (HB6.out.trans hb7); have HK7 := Lib.hid hk7; clear hd7 hq7 hb7 hk7)))
  have HS7 := Lib.hid (HK7.out.heap HS6.out hF4)
  clear HC HD6 HB6 HS6 HK7
  have HR := Lib.hid (dread_any 1 HD7.out (by decide))
  rw [rC, rCe] at HR
  unfold RdEnd at HR
  rw [← scF_sec] at HR
  obtain ⟨c5, hc5, hl5, ho5⟩ : ∃ c5 : List Value, scF (scB 5) = c5 ∧ c5.length = 128 ∧ ∀ v ∈ c5, v.oneCell' = true := ⟨_, rfl, scF_len _, scF_one _⟩
  rw [hc5] at HR
  have h50 : c5[0]? = some (.int .u8 5) := by rw [← hc5]; rfl
  go_upto_region 9 with (first
    | (go_at_call 14; go_must (refine HR.out.mono ?_; rintro e w8 ⟨rfl, hb8⟩; have HS8 := Lib.hid (old_heap HS7.out hb8); have HB8 := Lib.hid (bnext HB7.out hb8); clear hb8))
    | (refine wpList_store_row rfl 31 (.tmp 4) (.tmp 33) rfl w8.heap.size zArr c5.toArray 31 rfl rfl (heap_alloc_last _ _) (by simp only [List.size_toArray]; rw [hl5]; exact size_sec) (by simp [hl5, zArr_size]) (all_oneCell_toArray ho5) ?_))
  rw [World.setRow_alloc_new]
  have hS9 := new_heap w8 (.cells c5.toArray 31 (0, 0))
  have hb9 : Below w8.heap.size w8 (w8.alloc (.cells c5.toArray 31)) := (Below.refl _ w8).alloc (Nat.le_refl _) _
  have hB9 := bnext HB8.out hb9
  have k4 : (w8.alloc (.cells c5.toArray 31)).cell? ⟨p4, 0, none⟩ = some (.int .u8 6) := by
    have := cell_row (old_heap HS8.out hb9) 0
    simpa [h60] using this
  have k9 : (w8.alloc (.cells c5.toArray 31)).cell? ⟨w8.heap.size, 0, none⟩ = some (.int .u8 5) := by
    have := cell_row hS9 0
    simpa [h50] using this
  clear hb9 hS9 HR
  revert hB9 k4 k9
  generalize w8.alloc (.cells c5.toArray 31) = w9
  generalize w8.heap.size = p9
  intro hB9 k4 k9
  go_wp2
  go_ret
  exact ⟨rfl, hB9⟩
end Go.Proofs.Ytiehfaiadhhndaa
