/-
  Codec: the passes of plain structs, when they write.
-/
import Derived.Test.YtcpfafmkhegckaaMgKinds2
namespace Go.Proofs.Ytcpfafmkhegckaa
open Go.RowKit
set_option linter.unusedVariables false
set_option linter.unusedSimpArgs false
set_option linter.unnecessarySimpa false
section
variable {w : World} {base g : Nat} {l : List UInt8} {bad : Bool}
set_option maxRecDepth 10000 in
set_option maxHeartbeats 8000000 in
theorem pw_entry (kind : Int) (num : Nat) (ver : Nat) (idx : Int) (pb po : Nat) (h : CwAt w base g l bad) (h0 : w.cell? ⟨pb, po, none⟩ = some (.int .i64 kind)) (h1 : w.cell? ⟨pb, po + 1, none⟩ = some (.int .u32 (num : Int))) (h2 : w.cell? ⟨pb, po + 2, none⟩ = some (.int .u32 (ver : Int))) (h3 : w.cell? ⟨pb, po + 3, none⟩ = some (.int .i64 idx)) (r0 : -9223372036854775808 ≤ kind ∧ kind ≤ 9223372036854775807) (r1 : num < 2 ^ 32) (r2 : ver < 2 ^ 32) (r3 : -9223372036854775808 ≤ idx ∧ idx ≤ 9223372036854775807) (hl : l.length ≤ 90000) (hbs : base ≤ w.heap.size) (hpb : pb < base) :
    Calls Try.prog 131 #[wV g, .pointer (some ⟨pb, po, none⟩)] w (CwTo w base g (l ++ fB [(1, kind), (2, (num : Int)), (4, (ver : Int)), (2, idx)]) (bad || fBad [(1, kind), (2, (num : Int)), (4, (ver : Int)), (2, idx)])) := by
  have HW0 := Lib.hid h
  have HB0 := Lib.hid (Below.refl base w)
  have HL0 := hl
  clear h
  have na_int := fun W => na_w ⟨g, 0, none⟩ W "drumlin/codec.int" (by simp)
  have mt_int := fun W => mw_int ⟨g, 0, none⟩ W
  have na_word := fun W => na_w ⟨g, 0, none⟩ W "drumlin/codec.word" (by simp)
  have mt_word := fun W => mw_word ⟨g, 0, none⟩ W
  have H0 := Lib.hid h0
  have H1 := Lib.hid h1
  have H2 := Lib.hid h2
  have H3 := Lib.hid h3
  clear h0 h1 h2 h3
  unfold wV
  go_enter Try.func131, Try.ntmps131
  go_upto_region 0 with fail
  have HC0 := Lib.hid (cw_int 1 kind pb (po) (HW0.out.below (Below.refl _ w).drew) (by decide) r0 ((HB0.out.drew.cell (p := ⟨pb, po, none⟩) hpb).trans H0.out) (by (try simp only [List.length_append, wB_len]); omega) (Nat.le_trans hbs HB0.out.size))
  unfold CwTo at HC0
  refine wp_region_held_drew (S := (fun w' => Below base w w')) (by kernel_rfl) (by exact HB0.out.drew) (fun hHeld => ?_)
  refine take1_ (i := 0) (v := ?_) (a' := ?_) (some 4) #[true, false, false, false, false, false, false, false] rfl rfl (by kernel_rfl) (fun _ _ _ h => h) (Or.inl ⟨by rfl, ?_⟩) hHeld ?_ ?_
  rotate_left
  · (intro w hSw; (try dsimp only at hSw); go_simp; (try with_reducible rfl))
  rotate_left
  · simp only [Act.put, List.setIfInBounds_toArray, List.set_cons_zero, List.set_cons_succ]
    rfl
  refine take1_ (i := 1) (v := ?_) (a' := ?_) (some 5) #[true, true, false, false, false, false, false, false] rfl rfl (by kernel_rfl) (fun _ _ _ h => h) (Or.inl ⟨by rfl, ?_⟩) hHeld ?_ ?_
  rotate_left
  · (intro w hSw; (try dsimp only at hSw); go_simp; (try with_reducible rfl))
  rotate_left
  · simp only [Act.put, List.setIfInBounds_toArray, List.set_cons_zero, List.set_cons_succ]
    rfl
  refine take1_ (i := 2) (v := ?_) (a' := ?_) (some 6) #[true, true, true, false, false, false, false, false] rfl rfl (by kernel_rfl) (fun _ _ _ h => h) (Or.inl ⟨by rfl, ?_⟩) hHeld ?_ ?_
  rotate_left
  · (intro w hSw; (try dsimp only at hSw); go_simp; (try with_reducible rfl))
  rotate_left
  · simp only [Act.put, List.setIfInBounds_toArray, List.set_cons_zero, List.set_cons_succ]
    rfl
  refine take1_ (i := 3) (v := ?_) (a' := ?_) (some 7) #[true, true, true, true, false, false, false, false] rfl rfl (by kernel_rfl) (fun _ _ _ h => h) (Or.inl ⟨by rfl, ?_⟩) hHeld ?_ ?_
  rotate_left
  · (intro w hSw; (try dsimp only at hSw); go_simp; (try with_reducible rfl))
  rotate_left
  · simp only [Act.put, List.setIfInBounds_toArray, List.set_cons_zero, List.set_cons_succ]
    rfl
  refine take1_ (i := 4) (v := ?_) (a' := ?_) (some 8) #[true, true, true, true, true, false, false, false] rfl rfl (by kernel_rfl) (fun _ _ _ h => h) (Or.inl ⟨by rfl, ?_⟩) hHeld ?_ ?_
  rotate_left
  · (intro w hSw; (try dsimp only at hSw); go_simp; (try with_reducible rfl))
  rotate_left
  · simp only [Act.put, List.setIfInBounds_toArray, List.set_cons_zero, List.set_cons_succ]
    rfl
  refine take1_ (i := 5) (v := ?_) (a' := ?_) (some 9) #[true, true, true, true, true, true, false, false] rfl rfl (by kernel_rfl) (fun _ _ _ h => h) (Or.inl ⟨by rfl, ?_⟩) hHeld ?_ ?_
  rotate_left
  · (intro w hSw; (try dsimp only at hSw); go_simp; (try with_reducible rfl))
  rotate_left
  · simp only [Act.put, List.setIfInBounds_toArray, List.set_cons_zero, List.set_cons_succ]
    rfl
  refine take1_ (i := 6) (v := ?_) (a' := ?_) (some 10) #[true, true, true, true, true, true, true, false] rfl rfl (by kernel_rfl) (fun _ _ _ h => h) (Or.inl ⟨by rfl, ?_⟩) hHeld ?_ ?_
  rotate_left
  · (intro w hSw; (try dsimp only at hSw); go_simp; (try with_reducible rfl))
  rotate_left
  · simp only [Act.put, List.setIfInBounds_toArray, List.set_cons_zero, List.set_cons_succ]
    rfl
  refine loud1_ (i := 7) (some 11) #[true, true, true, true, true, true, true, true] rfl rfl (by kernel_rfl) (fun K hK => ?_)
  go_simp
  (go_at_call 181; refine HC0.out.mono ?_; rintro e w1 ⟨rfl, hcw, hbw⟩; have HW1 := Lib.hid hcw; have HB1 := Lib.hid (HB0.out.drew.trans hbw); have hnx := HB1.out; clear hcw hbw)
  refine hK.out _ _ (by exact hnx) (fun hHeld' => ?_)
  clear hK K hHeld
  have hHeld := hHeld'
  clear hHeld'
  try simp only [Act.put, List.setIfInBounds_toArray, List.set_cons_zero, List.set_cons_succ]
  refine wpAnyH_done (by kernel_rfl) ?_ _
  clear hHeld hnx HC0 HW0
  go_upto_region 1 with fail
  have HC1 := Lib.hid (cw_word 2 num pb (po + 1) (HW1.out.below (Below.refl _ w1).drew) (by decide) r1 ((HB1.out.drew.cell (p := ⟨pb, po + 1, none⟩) hpb).trans H1.out) (by (try simp only [List.length_append, wB_len]); omega) (Nat.le_trans hbs HB1.out.size))
  unfold CwTo at HC1
  refine wp_region_held_drew (S := (fun w' => Below base w w')) (by kernel_rfl) (by exact HB1.out.drew) (fun hHeld => ?_)
  refine take1_ (i := 0) (v := ?_) (a' := ?_) (some 12) #[true, false, false, false, false, false, false, false] rfl rfl (by kernel_rfl) (fun _ _ _ h => h) (Or.inl ⟨by rfl, ?_⟩) hHeld ?_ ?_
  rotate_left
  · (intro w hSw; (try dsimp only at hSw); go_simp; (try with_reducible rfl))
  rotate_left
  · simp only [Act.put, List.setIfInBounds_toArray, List.set_cons_zero, List.set_cons_succ]
    rfl
  refine take1_ (i := 1) (v := ?_) (a' := ?_) (some 13) #[true, true, false, false, false, false, false, false] rfl rfl (by kernel_rfl) (fun _ _ _ h => h) (Or.inl ⟨by rfl, ?_⟩) hHeld ?_ ?_
  rotate_left
  · (intro w hSw; (try dsimp only at hSw); go_simp; (try with_reducible rfl))
  rotate_left
  · simp only [Act.put, List.setIfInBounds_toArray, List.set_cons_zero, List.set_cons_succ]
    rfl
  refine take1_ (i := 2) (v := ?_) (a' := ?_) (some 14) #[true, true, true, false, false, false, false, false] rfl rfl (by kernel_rfl) (fun _ _ _ h => h) (Or.inl ⟨by rfl, ?_⟩) hHeld ?_ ?_
  rotate_left
  · (intro w hSw; (try dsimp only at hSw); go_simp; (try with_reducible rfl))
  rotate_left
  · simp only [Act.put, List.setIfInBounds_toArray, List.set_cons_zero, List.set_cons_succ]
    rfl
  refine take1_ (i := 3) (v := ?_) (a' := ?_) (some 15) #[true, true, true, true, false, false, false, false] rfl rfl (by kernel_rfl) (fun _ _ _ h => h) (Or.inl ⟨by rfl, ?_⟩) hHeld ?_ ?_
  rotate_left
  · (intro w hSw; (try dsimp only at hSw); go_simp; (try with_reducible rfl))
  rotate_left
  · simp only [Act.put, List.setIfInBounds_toArray, List.set_cons_zero, List.set_cons_succ]
    rfl
  refine take1_ (i := 4) (v := ?_) (a' := ?_) (some 16) #[true, true, true, true, true, false, false, false] rfl rfl (by kernel_rfl) (fun _ _ _ h => h) (Or.inl ⟨by rfl, ?_⟩) hHeld ?_ ?_
  rotate_left
  · (intro w hSw; (try dsimp only at hSw); go_simp; (try with_reducible rfl))
  rotate_left
  · simp only [Act.put, List.setIfInBounds_toArray, List.set_cons_zero, List.set_cons_succ]
    rfl
  refine take1_ (i := 5) (v := ?_) (a' := ?_) (some 17) #[true, true, true, true, true, true, false, false] rfl rfl (by kernel_rfl) (fun _ _ _ h => h) (Or.inl ⟨by rfl, ?_⟩) hHeld ?_ ?_
  rotate_left
  · (intro w hSw; (try dsimp only at hSw); go_simp; (try with_reducible rfl))
  rotate_left
  · simp only [Act.put, List.setIfInBounds_toArray, List.set_cons_zero, List.set_cons_succ]
    rfl
  refine take1_ (i := 6) (v := ?_) (a' := ?_) (some 18) #[true, true, true, true, true, true, true, false] rfl rfl (by kernel_rfl) (fun _ _ _ h => h) (Or.inl ⟨by rfl, ?_⟩) hHeld ?_ ?_
  rotate_left
  · (intro w hSw; (try dsimp only at hSw); go_simp; (try with_reducible rfl))
  rotate_left
  · simp only [Act.put, List.setIfInBounds_toArray, List.set_cons_zero, List.set_cons_succ]
    rfl
  refine loud1_ (i := 7) (some 19) #[true, true, true, true, true, true, true, true] rfl rfl (by kernel_rfl) (fun K hK => ?_)
  go_simp
  (go_at_call 184; refine HC1.out.mono ?_; rintro e w2 ⟨rfl, hcw, hbw⟩; have HW2 := Lib.hid hcw; have HB2 := Lib.hid (HB1.out.drew.trans hbw); have hnx := HB2.out; clear hcw hbw)
  refine hK.out _ _ (by exact hnx) (fun hHeld' => ?_)
  clear hK K hHeld
  have hHeld := hHeld'
  clear hHeld'
  try simp only [Act.put, List.setIfInBounds_toArray, List.set_cons_zero, List.set_cons_succ]
  refine wpAnyH_done (by kernel_rfl) ?_ _
  clear hHeld hnx HC1 HW1
  go_upto_region 2 with fail
  have HC2 := Lib.hid (cw_word 4 ver pb (po + 2) (HW2.out.below (Below.refl _ w2).drew) (by decide) r2 ((HB2.out.drew.cell (p := ⟨pb, po + 2, none⟩) hpb).trans H2.out) (by (try simp only [List.length_append, wB_len]); omega) (Nat.le_trans hbs HB2.out.size))
  unfold CwTo at HC2
  refine wp_region_held_drew (S := (fun w' => Below base w w')) (by kernel_rfl) (by exact HB2.out.drew) (fun hHeld => ?_)
  refine take1_ (i := 0) (v := ?_) (a' := ?_) (some 20) #[true, false, false, false, false, false, false, false] rfl rfl (by kernel_rfl) (fun _ _ _ h => h) (Or.inl ⟨by rfl, ?_⟩) hHeld ?_ ?_
  rotate_left
  · (intro w hSw; (try dsimp only at hSw); go_simp; (try with_reducible rfl))
  rotate_left
  · simp only [Act.put, List.setIfInBounds_toArray, List.set_cons_zero, List.set_cons_succ]
    rfl
  refine take1_ (i := 1) (v := ?_) (a' := ?_) (some 21) #[true, true, false, false, false, false, false, false] rfl rfl (by kernel_rfl) (fun _ _ _ h => h) (Or.inl ⟨by rfl, ?_⟩) hHeld ?_ ?_
  rotate_left
  · (intro w hSw; (try dsimp only at hSw); go_simp; (try with_reducible rfl))
  rotate_left
  · simp only [Act.put, List.setIfInBounds_toArray, List.set_cons_zero, List.set_cons_succ]
    rfl
  refine take1_ (i := 2) (v := ?_) (a' := ?_) (some 22) #[true, true, true, false, false, false, false, false] rfl rfl (by kernel_rfl) (fun _ _ _ h => h) (Or.inl ⟨by rfl, ?_⟩) hHeld ?_ ?_
  rotate_left
  · (intro w hSw; (try dsimp only at hSw); go_simp; (try with_reducible rfl))
  rotate_left
  · simp only [Act.put, List.setIfInBounds_toArray, List.set_cons_zero, List.set_cons_succ]
    rfl
  refine take1_ (i := 3) (v := ?_) (a' := ?_) (some 23) #[true, true, true, true, false, false, false, false] rfl rfl (by kernel_rfl) (fun _ _ _ h => h) (Or.inl ⟨by rfl, ?_⟩) hHeld ?_ ?_
  rotate_left
  · (intro w hSw; (try dsimp only at hSw); go_simp; (try with_reducible rfl))
  rotate_left
  · simp only [Act.put, List.setIfInBounds_toArray, List.set_cons_zero, List.set_cons_succ]
    rfl
  refine take1_ (i := 4) (v := ?_) (a' := ?_) (some 24) #[true, true, true, true, true, false, false, false] rfl rfl (by kernel_rfl) (fun _ _ _ h => h) (Or.inl ⟨by rfl, ?_⟩) hHeld ?_ ?_
  rotate_left
  · (intro w hSw; (try dsimp only at hSw); go_simp; (try with_reducible rfl))
  rotate_left
  · simp only [Act.put, List.setIfInBounds_toArray, List.set_cons_zero, List.set_cons_succ]
    rfl
  refine take1_ (i := 5) (v := ?_) (a' := ?_) (some 25) #[true, true, true, true, true, true, false, false] rfl rfl (by kernel_rfl) (fun _ _ _ h => h) (Or.inl ⟨by rfl, ?_⟩) hHeld ?_ ?_
  rotate_left
  · (intro w hSw; (try dsimp only at hSw); go_simp; (try with_reducible rfl))
  rotate_left
  · simp only [Act.put, List.setIfInBounds_toArray, List.set_cons_zero, List.set_cons_succ]
    rfl
  refine take1_ (i := 6) (v := ?_) (a' := ?_) (some 26) #[true, true, true, true, true, true, true, false] rfl rfl (by kernel_rfl) (fun _ _ _ h => h) (Or.inl ⟨by rfl, ?_⟩) hHeld ?_ ?_
  rotate_left
  · (intro w hSw; (try dsimp only at hSw); go_simp; (try with_reducible rfl))
  rotate_left
  · simp only [Act.put, List.setIfInBounds_toArray, List.set_cons_zero, List.set_cons_succ]
    rfl
  refine loud1_ (i := 7) (some 27) #[true, true, true, true, true, true, true, true] rfl rfl (by kernel_rfl) (fun K hK => ?_)
  go_simp
  (go_at_call 184; refine HC2.out.mono ?_; rintro e w3 ⟨rfl, hcw, hbw⟩; have HW3 := Lib.hid hcw; have HB3 := Lib.hid (HB2.out.drew.trans hbw); have hnx := HB3.out; clear hcw hbw)
  refine hK.out _ _ (by exact hnx) (fun hHeld' => ?_)
  clear hK K hHeld
  have hHeld := hHeld'
  clear hHeld'
  try simp only [Act.put, List.setIfInBounds_toArray, List.set_cons_zero, List.set_cons_succ]
  refine wpAnyH_done (by kernel_rfl) ?_ _
  clear hHeld hnx HC2 HW2
  go_upto_region 3 with fail
  have HC3 := Lib.hid (cw_int 2 idx pb (po + 3) (HW3.out.below (Below.refl _ w3).drew) (by decide) r3 ((HB3.out.drew.cell (p := ⟨pb, po + 3, none⟩) hpb).trans H3.out) (by (try simp only [List.length_append, wB_len]); omega) (Nat.le_trans hbs HB3.out.size))
  unfold CwTo at HC3
  refine wp_region_held_drew (S := (fun w' => Below base w w')) (by kernel_rfl) (by exact HB3.out.drew) (fun hHeld => ?_)
  refine take1_ (i := 0) (v := ?_) (a' := ?_) (some 28) #[true, false, false, false, false, false, false, false] rfl rfl (by kernel_rfl) (fun _ _ _ h => h) (Or.inl ⟨by rfl, ?_⟩) hHeld ?_ ?_
  rotate_left
  · (intro w hSw; (try dsimp only at hSw); go_simp; (try with_reducible rfl))
  rotate_left
  · simp only [Act.put, List.setIfInBounds_toArray, List.set_cons_zero, List.set_cons_succ]
    rfl
  refine take1_ (i := 1) (v := ?_) (a' := ?_) (some 29) #[true, true, false, false, false, false, false, false] rfl rfl (by kernel_rfl) (fun _ _ _ h => h) (Or.inl ⟨by rfl, ?_⟩) hHeld ?_ ?_
  rotate_left
  · (intro w hSw; (try dsimp only at hSw); go_simp; (try with_reducible rfl))
  rotate_left
  · simp only [Act.put, List.setIfInBounds_toArray, List.set_cons_zero, List.set_cons_succ]
    rfl
  refine take1_ (i := 2) (v := ?_) (a' := ?_) (some 30) #[true, true, true, false, false, false, false, false] rfl rfl (by kernel_rfl) (fun _ _ _ h => h) (Or.inl ⟨by rfl, ?_⟩) hHeld ?_ ?_
  rotate_left
  · (intro w hSw; (try dsimp only at hSw); go_simp; (try with_reducible rfl))
  rotate_left
  · simp only [Act.put, List.setIfInBounds_toArray, List.set_cons_zero, List.set_cons_succ]
    rfl
  refine take1_ (i := 3) (v := ?_) (a' := ?_) (some 31) #[true, true, true, true, false, false, false, false] rfl rfl (by kernel_rfl) (fun _ _ _ h => h) (Or.inl ⟨by rfl, ?_⟩) hHeld ?_ ?_
  rotate_left
  · (intro w hSw; (try dsimp only at hSw); go_simp; (try with_reducible rfl))
  rotate_left
  · simp only [Act.put, List.setIfInBounds_toArray, List.set_cons_zero, List.set_cons_succ]
    rfl
  refine take1_ (i := 4) (v := ?_) (a' := ?_) (some 32) #[true, true, true, true, true, false, false, false] rfl rfl (by kernel_rfl) (fun _ _ _ h => h) (Or.inl ⟨by rfl, ?_⟩) hHeld ?_ ?_
  rotate_left
  · (intro w hSw; (try dsimp only at hSw); go_simp; (try with_reducible rfl))
  rotate_left
  · simp only [Act.put, List.setIfInBounds_toArray, List.set_cons_zero, List.set_cons_succ]
    rfl
  refine take1_ (i := 5) (v := ?_) (a' := ?_) (some 33) #[true, true, true, true, true, true, false, false] rfl rfl (by kernel_rfl) (fun _ _ _ h => h) (Or.inl ⟨by rfl, ?_⟩) hHeld ?_ ?_
  rotate_left
  · (intro w hSw; (try dsimp only at hSw); go_simp; (try with_reducible rfl))
  rotate_left
  · simp only [Act.put, List.setIfInBounds_toArray, List.set_cons_zero, List.set_cons_succ]
    rfl
  refine take1_ (i := 6) (v := ?_) (a' := ?_) (some 34) #[true, true, true, true, true, true, true, false] rfl rfl (by kernel_rfl) (fun _ _ _ h => h) (Or.inl ⟨by rfl, ?_⟩) hHeld ?_ ?_
  rotate_left
  · (intro w hSw; (try dsimp only at hSw); go_simp; (try with_reducible rfl))
  rotate_left
  · simp only [Act.put, List.setIfInBounds_toArray, List.set_cons_zero, List.set_cons_succ]
    rfl
  refine loud1_ (i := 7) (some 35) #[true, true, true, true, true, true, true, true] rfl rfl (by kernel_rfl) (fun K hK => ?_)
  go_simp
  (go_at_call 181; refine HC3.out.mono ?_; rintro e w4 ⟨rfl, hcw, hbw⟩; have HW4 := Lib.hid hcw; have HB4 := Lib.hid (HB3.out.drew.trans hbw); have hnx := HB4.out; clear hcw hbw)
  refine hK.out _ _ (by exact hnx) (fun hHeld' => ?_)
  clear hK K hHeld
  have hHeld := hHeld'
  clear hHeld'
  try simp only [Act.put, List.setIfInBounds_toArray, List.set_cons_zero, List.set_cons_succ]
  refine wpAnyH_done (by kernel_rfl) ?_ _
  clear hHeld hnx HC3 HW3
  go_wp2
  go_end0
  have hE : l ++ fB [(1, kind), (2, (num : Int)), (4, (ver : Int)), (2, idx)] = ((((l ++ wB 1 kind.toNat) ++ wB 2 num) ++ wB 4 ver) ++ wB 2 idx.toNat) := by simp [fB, List.append_assoc]
  have hF : (bad || fBad [(1, kind), (2, (num : Int)), (4, (ver : Int)), (2, idx)]) = ((((((bad || decide (kind < 0)) || !fitB 1 kind.toNat) || !fitB 2 num) || !fitB 4 ver) || decide (idx < 0)) || !fitB 2 idx.toNat) := by simp [fBad, Bool.or_assoc, nat_neg]
  rw [hE, hF]
  exact ⟨rfl, HW4.out, HB4.out⟩
set_option maxRecDepth 10000 in
set_option maxHeartbeats 8000000 in
theorem pw_slot (at_ : Int) (ver : Nat) (links : Int) (kind : Int) (pb po : Nat) (h : CwAt w base g l bad) (h0 : w.cell? ⟨pb, po, none⟩ = some (.int .i64 at_)) (h1 : w.cell? ⟨pb, po + 1, none⟩ = some (.int .u32 (ver : Int))) (h2 : w.cell? ⟨pb, po + 2, none⟩ = some (.int .i64 links)) (h3 : w.cell? ⟨pb, po + 3, none⟩ = some (.int .i64 kind)) (r0 : -9223372036854775808 ≤ at_ ∧ at_ ≤ 9223372036854775807) (r1 : ver < 2 ^ 32) (r2 : -9223372036854775808 ≤ links ∧ links ≤ 9223372036854775807) (r3 : -9223372036854775808 ≤ kind ∧ kind ≤ 9223372036854775807) (hl : l.length ≤ 90000) (hbs : base ≤ w.heap.size) (hpb : pb < base) :
    Calls Try.prog 154 #[wV g, .pointer (some ⟨pb, po, none⟩)] w (CwTo w base g (l ++ fB [(4, at_), (4, (ver : Int)), (2, links), (1, kind)]) (bad || fBad [(4, at_), (4, (ver : Int)), (2, links), (1, kind)])) := by
  have HW0 := Lib.hid h
  have HB0 := Lib.hid (Below.refl base w)
  have HL0 := hl
  clear h
  have na_int := fun W => na_w ⟨g, 0, none⟩ W "drumlin/codec.int" (by simp)
  have mt_int := fun W => mw_int ⟨g, 0, none⟩ W
  have na_word := fun W => na_w ⟨g, 0, none⟩ W "drumlin/codec.word" (by simp)
  have mt_word := fun W => mw_word ⟨g, 0, none⟩ W
  have H0 := Lib.hid h0
  have H1 := Lib.hid h1
  have H2 := Lib.hid h2
  have H3 := Lib.hid h3
  clear h0 h1 h2 h3
  unfold wV
  go_enter Try.func154, Try.ntmps154
  go_upto_region 0 with fail
  have HC0 := Lib.hid (cw_int 4 at_ pb (po) (HW0.out.below (Below.refl _ w).drew) (by decide) r0 ((HB0.out.drew.cell (p := ⟨pb, po, none⟩) hpb).trans H0.out) (by (try simp only [List.length_append, wB_len]); omega) (Nat.le_trans hbs HB0.out.size))
  unfold CwTo at HC0
  refine wp_region_held_drew (S := (fun w' => Below base w w')) (by kernel_rfl) (by exact HB0.out.drew) (fun hHeld => ?_)
  refine take1_ (i := 0) (v := ?_) (a' := ?_) (some 4) #[true, false, false, false, false, false, false, false] rfl rfl (by kernel_rfl) (fun _ _ _ h => h) (Or.inl ⟨by rfl, ?_⟩) hHeld ?_ ?_
  rotate_left
  · (intro w hSw; (try dsimp only at hSw); go_simp; (try with_reducible rfl))
  rotate_left
  · simp only [Act.put, List.setIfInBounds_toArray, List.set_cons_zero, List.set_cons_succ]
    rfl
  refine take1_ (i := 1) (v := ?_) (a' := ?_) (some 5) #[true, true, false, false, false, false, false, false] rfl rfl (by kernel_rfl) (fun _ _ _ h => h) (Or.inl ⟨by rfl, ?_⟩) hHeld ?_ ?_
  rotate_left
  · (intro w hSw; (try dsimp only at hSw); go_simp; (try with_reducible rfl))
  rotate_left
  · simp only [Act.put, List.setIfInBounds_toArray, List.set_cons_zero, List.set_cons_succ]
    rfl
  refine take1_ (i := 2) (v := ?_) (a' := ?_) (some 6) #[true, true, true, false, false, false, false, false] rfl rfl (by kernel_rfl) (fun _ _ _ h => h) (Or.inl ⟨by rfl, ?_⟩) hHeld ?_ ?_
  rotate_left
  · (intro w hSw; (try dsimp only at hSw); go_simp; (try with_reducible rfl))
  rotate_left
  · simp only [Act.put, List.setIfInBounds_toArray, List.set_cons_zero, List.set_cons_succ]
    rfl
  refine take1_ (i := 3) (v := ?_) (a' := ?_) (some 7) #[true, true, true, true, false, false, false, false] rfl rfl (by kernel_rfl) (fun _ _ _ h => h) (Or.inl ⟨by rfl, ?_⟩) hHeld ?_ ?_
  rotate_left
  · (intro w hSw; (try dsimp only at hSw); go_simp; (try with_reducible rfl))
  rotate_left
  · simp only [Act.put, List.setIfInBounds_toArray, List.set_cons_zero, List.set_cons_succ]
    rfl
  refine take1_ (i := 4) (v := ?_) (a' := ?_) (some 8) #[true, true, true, true, true, false, false, false] rfl rfl (by kernel_rfl) (fun _ _ _ h => h) (Or.inl ⟨by rfl, ?_⟩) hHeld ?_ ?_
  rotate_left
  · (intro w hSw; (try dsimp only at hSw); go_simp; (try with_reducible rfl))
  rotate_left
  · simp only [Act.put, List.setIfInBounds_toArray, List.set_cons_zero, List.set_cons_succ]
    rfl
  refine take1_ (i := 5) (v := ?_) (a' := ?_) (some 9) #[true, true, true, true, true, true, false, false] rfl rfl (by kernel_rfl) (fun _ _ _ h => h) (Or.inl ⟨by rfl, ?_⟩) hHeld ?_ ?_
  rotate_left
  · (intro w hSw; (try dsimp only at hSw); go_simp; (try with_reducible rfl))
  rotate_left
  · simp only [Act.put, List.setIfInBounds_toArray, List.set_cons_zero, List.set_cons_succ]
    rfl
  refine take1_ (i := 6) (v := ?_) (a' := ?_) (some 10) #[true, true, true, true, true, true, true, false] rfl rfl (by kernel_rfl) (fun _ _ _ h => h) (Or.inl ⟨by rfl, ?_⟩) hHeld ?_ ?_
  rotate_left
  · (intro w hSw; (try dsimp only at hSw); go_simp; (try with_reducible rfl))
  rotate_left
  · simp only [Act.put, List.setIfInBounds_toArray, List.set_cons_zero, List.set_cons_succ]
    rfl
  refine loud1_ (i := 7) (some 11) #[true, true, true, true, true, true, true, true] rfl rfl (by kernel_rfl) (fun K hK => ?_)
  go_simp
  (go_at_call 181; refine HC0.out.mono ?_; rintro e w1 ⟨rfl, hcw, hbw⟩; have HW1 := Lib.hid hcw; have HB1 := Lib.hid (HB0.out.drew.trans hbw); have hnx := HB1.out; clear hcw hbw)
  refine hK.out _ _ (by exact hnx) (fun hHeld' => ?_)
  clear hK K hHeld
  have hHeld := hHeld'
  clear hHeld'
  try simp only [Act.put, List.setIfInBounds_toArray, List.set_cons_zero, List.set_cons_succ]
  refine wpAnyH_done (by kernel_rfl) ?_ _
  clear hHeld hnx HC0 HW0
  go_upto_region 1 with fail
  have HC1 := Lib.hid (cw_word 4 ver pb (po + 1) (HW1.out.below (Below.refl _ w1).drew) (by decide) r1 ((HB1.out.drew.cell (p := ⟨pb, po + 1, none⟩) hpb).trans H1.out) (by (try simp only [List.length_append, wB_len]); omega) (Nat.le_trans hbs HB1.out.size))
  unfold CwTo at HC1
  refine wp_region_held_drew (S := (fun w' => Below base w w')) (by kernel_rfl) (by exact HB1.out.drew) (fun hHeld => ?_)
  refine take1_ (i := 0) (v := ?_) (a' := ?_) (some 12) #[true, false, false, false, false, false, false, false] rfl rfl (by kernel_rfl) (fun _ _ _ h => h) (Or.inl ⟨by rfl, ?_⟩) hHeld ?_ ?_
  rotate_left
  · (intro w hSw; (try dsimp only at hSw); go_simp; (try with_reducible rfl))
  rotate_left
  · simp only [Act.put, List.setIfInBounds_toArray, List.set_cons_zero, List.set_cons_succ]
    rfl
  refine take1_ (i := 1) (v := ?_) (a' := ?_) (some 13) #[true, true, false, false, false, false, false, false] rfl rfl (by kernel_rfl) (fun _ _ _ h => h) (Or.inl ⟨by rfl, ?_⟩) hHeld ?_ ?_
  rotate_left
  · (intro w hSw; (try dsimp only at hSw); go_simp; (try with_reducible rfl))
  rotate_left
  · simp only [Act.put, List.setIfInBounds_toArray, List.set_cons_zero, List.set_cons_succ]
    rfl
  refine take1_ (i := 2) (v := ?_) (a' := ?_) (some 14) #[true, true, true, false, false, false, false, false] rfl rfl (by kernel_rfl) (fun _ _ _ h => h) (Or.inl ⟨by rfl, ?_⟩) hHeld ?_ ?_
  rotate_left
  · (intro w hSw; (try dsimp only at hSw); go_simp; (try with_reducible rfl))
  rotate_left
  · simp only [Act.put, List.setIfInBounds_toArray, List.set_cons_zero, List.set_cons_succ]
    rfl
  refine take1_ (i := 3) (v := ?_) (a' := ?_) (some 15) #[true, true, true, true, false, false, false, false] rfl rfl (by kernel_rfl) (fun _ _ _ h => h) (Or.inl ⟨by rfl, ?_⟩) hHeld ?_ ?_
  rotate_left
  · (intro w hSw; (try dsimp only at hSw); go_simp; (try with_reducible rfl))
  rotate_left
  · simp only [Act.put, List.setIfInBounds_toArray, List.set_cons_zero, List.set_cons_succ]
    rfl
  refine take1_ (i := 4) (v := ?_) (a' := ?_) (some 16) #[true, true, true, true, true, false, false, false] rfl rfl (by kernel_rfl) (fun _ _ _ h => h) (Or.inl ⟨by rfl, ?_⟩) hHeld ?_ ?_
  rotate_left
  · (intro w hSw; (try dsimp only at hSw); go_simp; (try with_reducible rfl))
  rotate_left
  · simp only [Act.put, List.setIfInBounds_toArray, List.set_cons_zero, List.set_cons_succ]
    rfl
  refine take1_ (i := 5) (v := ?_) (a' := ?_) (some 17) #[true, true, true, true, true, true, false, false] rfl rfl (by kernel_rfl) (fun _ _ _ h => h) (Or.inl ⟨by rfl, ?_⟩) hHeld ?_ ?_
  rotate_left
  · (intro w hSw; (try dsimp only at hSw); go_simp; (try with_reducible rfl))
  rotate_left
  · simp only [Act.put, List.setIfInBounds_toArray, List.set_cons_zero, List.set_cons_succ]
    rfl
  refine take1_ (i := 6) (v := ?_) (a' := ?_) (some 18) #[true, true, true, true, true, true, true, false] rfl rfl (by kernel_rfl) (fun _ _ _ h => h) (Or.inl ⟨by rfl, ?_⟩) hHeld ?_ ?_
  rotate_left
  · (intro w hSw; (try dsimp only at hSw); go_simp; (try with_reducible rfl))
  rotate_left
  · simp only [Act.put, List.setIfInBounds_toArray, List.set_cons_zero, List.set_cons_succ]
    rfl
  refine loud1_ (i := 7) (some 19) #[true, true, true, true, true, true, true, true] rfl rfl (by kernel_rfl) (fun K hK => ?_)
  go_simp
  (go_at_call 184; refine HC1.out.mono ?_; rintro e w2 ⟨rfl, hcw, hbw⟩; have HW2 := Lib.hid hcw; have HB2 := Lib.hid (HB1.out.drew.trans hbw); have hnx := HB2.out; clear hcw hbw)
  refine hK.out _ _ (by exact hnx) (fun hHeld' => ?_)
  clear hK K hHeld
  have hHeld := hHeld'
  clear hHeld'
  try simp only [Act.put, List.setIfInBounds_toArray, List.set_cons_zero, List.set_cons_succ]
  refine wpAnyH_done (by kernel_rfl) ?_ _
  clear hHeld hnx HC1 HW1
  go_upto_region 2 with fail
  have HC2 := Lib.hid (cw_int 2 links pb (po + 2) (HW2.out.below (Below.refl _ w2).drew) (by decide) r2 ((HB2.out.drew.cell (p := ⟨pb, po + 2, none⟩) hpb).trans H2.out) (by (try simp only [List.length_append, wB_len]); omega) (Nat.le_trans hbs HB2.out.size))
  unfold CwTo at HC2
  refine wp_region_held_drew (S := (fun w' => Below base w w')) (by kernel_rfl) (by exact HB2.out.drew) (fun hHeld => ?_)
  refine take1_ (i := 0) (v := ?_) (a' := ?_) (some 20) #[true, false, false, false, false, false, false, false] rfl rfl (by kernel_rfl) (fun _ _ _ h => h) (Or.inl ⟨by rfl, ?_⟩) hHeld ?_ ?_
  rotate_left
  · (intro w hSw; (try dsimp only at hSw); go_simp; (try with_reducible rfl))
  rotate_left
  · simp only [Act.put, List.setIfInBounds_toArray, List.set_cons_zero, List.set_cons_succ]
    rfl
  refine take1_ (i := 1) (v := ?_) (a' := ?_) (some 21) #[true, true, false, false, false, false, false, false] rfl rfl (by kernel_rfl) (fun _ _ _ h => h) (Or.inl ⟨by rfl, ?_⟩) hHeld ?_ ?_
  rotate_left
  · (intro w hSw; (try dsimp only at hSw); go_simp; (try with_reducible rfl))
  rotate_left
  · simp only [Act.put, List.setIfInBounds_toArray, List.set_cons_zero, List.set_cons_succ]
    rfl
  refine take1_ (i := 2) (v := ?_) (a' := ?_) (some 22) #[true, true, true, false, false, false, false, false] rfl rfl (by kernel_rfl) (fun _ _ _ h => h) (Or.inl ⟨by rfl, ?_⟩) hHeld ?_ ?_
  rotate_left
  · (intro w hSw; (try dsimp only at hSw); go_simp; (try with_reducible rfl))
  rotate_left
  · simp only [Act.put, List.setIfInBounds_toArray, List.set_cons_zero, List.set_cons_succ]
    rfl
  refine take1_ (i := 3) (v := ?_) (a' := ?_) (some 23) #[true, true, true, true, false, false, false, false] rfl rfl (by kernel_rfl) (fun _ _ _ h => h) (Or.inl ⟨by rfl, ?_⟩) hHeld ?_ ?_
  rotate_left
  · (intro w hSw; (try dsimp only at hSw); go_simp; (try with_reducible rfl))
  rotate_left
  · simp only [Act.put, List.setIfInBounds_toArray, List.set_cons_zero, List.set_cons_succ]
    rfl
  refine take1_ (i := 4) (v := ?_) (a' := ?_) (some 24) #[true, true, true, true, true, false, false, false] rfl rfl (by kernel_rfl) (fun _ _ _ h => h) (Or.inl ⟨by rfl, ?_⟩) hHeld ?_ ?_
  rotate_left
  · (intro w hSw; (try dsimp only at hSw); go_simp; (try with_reducible rfl))
  rotate_left
  · simp only [Act.put, List.setIfInBounds_toArray, List.set_cons_zero, List.set_cons_succ]
    rfl
  refine take1_ (i := 5) (v := ?_) (a' := ?_) (some 25) #[true, true, true, true, true, true, false, false] rfl rfl (by kernel_rfl) (fun _ _ _ h => h) (Or.inl ⟨by rfl, ?_⟩) hHeld ?_ ?_
  rotate_left
  · (intro w hSw; (try dsimp only at hSw); go_simp; (try with_reducible rfl))
  rotate_left
  · simp only [Act.put, List.setIfInBounds_toArray, List.set_cons_zero, List.set_cons_succ]
    rfl
  refine take1_ (i := 6) (v := ?_) (a' := ?_) (some 26) #[true, true, true, true, true, true, true, false] rfl rfl (by kernel_rfl) (fun _ _ _ h => h) (Or.inl ⟨by rfl, ?_⟩) hHeld ?_ ?_
  rotate_left
  · (intro w hSw; (try dsimp only at hSw); go_simp; (try with_reducible rfl))
  rotate_left
  · simp only [Act.put, List.setIfInBounds_toArray, List.set_cons_zero, List.set_cons_succ]
    rfl
  refine loud1_ (i := 7) (some 27) #[true, true, true, true, true, true, true, true] rfl rfl (by kernel_rfl) (fun K hK => ?_)
  go_simp
  (go_at_call 181; refine HC2.out.mono ?_; rintro e w3 ⟨rfl, hcw, hbw⟩; have HW3 := Lib.hid hcw; have HB3 := Lib.hid (HB2.out.drew.trans hbw); have hnx := HB3.out; clear hcw hbw)
  refine hK.out _ _ (by exact hnx) (fun hHeld' => ?_)
  clear hK K hHeld
  have hHeld := hHeld'
  clear hHeld'
  try simp only [Act.put, List.setIfInBounds_toArray, List.set_cons_zero, List.set_cons_succ]
  refine wpAnyH_done (by kernel_rfl) ?_ _
  clear hHeld hnx HC2 HW2
  go_upto_region 3 with fail
  have HC3 := Lib.hid (cw_int 1 kind pb (po + 3) (HW3.out.below (Below.refl _ w3).drew) (by decide) r3 ((HB3.out.drew.cell (p := ⟨pb, po + 3, none⟩) hpb).trans H3.out) (by (try simp only [List.length_append, wB_len]); omega) (Nat.le_trans hbs HB3.out.size))
  unfold CwTo at HC3
  refine wp_region_held_drew (S := (fun w' => Below base w w')) (by kernel_rfl) (by exact HB3.out.drew) (fun hHeld => ?_)
  refine take1_ (i := 0) (v := ?_) (a' := ?_) (some 28) #[true, false, false, false, false, false, false, false] rfl rfl (by kernel_rfl) (fun _ _ _ h => h) (Or.inl ⟨by rfl, ?_⟩) hHeld ?_ ?_
  rotate_left
  · (intro w hSw; (try dsimp only at hSw); go_simp; (try with_reducible rfl))
  rotate_left
  · simp only [Act.put, List.setIfInBounds_toArray, List.set_cons_zero, List.set_cons_succ]
    rfl
  refine take1_ (i := 1) (v := ?_) (a' := ?_) (some 29) #[true, true, false, false, false, false, false, false] rfl rfl (by kernel_rfl) (fun _ _ _ h => h) (Or.inl ⟨by rfl, ?_⟩) hHeld ?_ ?_
  rotate_left
  · (intro w hSw; (try dsimp only at hSw); go_simp; (try with_reducible rfl))
  rotate_left
  · simp only [Act.put, List.setIfInBounds_toArray, List.set_cons_zero, List.set_cons_succ]
    rfl
  refine take1_ (i := 2) (v := ?_) (a' := ?_) (some 30) #[true, true, true, false, false, false, false, false] rfl rfl (by kernel_rfl) (fun _ _ _ h => h) (Or.inl ⟨by rfl, ?_⟩) hHeld ?_ ?_
  rotate_left
  · (intro w hSw; (try dsimp only at hSw); go_simp; (try with_reducible rfl))
  rotate_left
  · simp only [Act.put, List.setIfInBounds_toArray, List.set_cons_zero, List.set_cons_succ]
    rfl
  refine take1_ (i := 3) (v := ?_) (a' := ?_) (some 31) #[true, true, true, true, false, false, false, false] rfl rfl (by kernel_rfl) (fun _ _ _ h => h) (Or.inl ⟨by rfl, ?_⟩) hHeld ?_ ?_
  rotate_left
  · (intro w hSw; (try dsimp only at hSw); go_simp; (try with_reducible rfl))
  rotate_left
  · simp only [Act.put, List.setIfInBounds_toArray, List.set_cons_zero, List.set_cons_succ]
    rfl
  refine take1_ (i := 4) (v := ?_) (a' := ?_) (some 32) #[true, true, true, true, true, false, false, false] rfl rfl (by kernel_rfl) (fun _ _ _ h => h) (Or.inl ⟨by rfl, ?_⟩) hHeld ?_ ?_
  rotate_left
  · (intro w hSw; (try dsimp only at hSw); go_simp; (try with_reducible rfl))
  rotate_left
  · simp only [Act.put, List.setIfInBounds_toArray, List.set_cons_zero, List.set_cons_succ]
    rfl
  refine take1_ (i := 5) (v := ?_) (a' := ?_) (some 33) #[true, true, true, true, true, true, false, false] rfl rfl (by kernel_rfl) (fun _ _ _ h => h) (Or.inl ⟨by rfl, ?_⟩) hHeld ?_ ?_
  rotate_left
  · (intro w hSw; (try dsimp only at hSw); go_simp; (try with_reducible rfl))
  rotate_left
  · simp only [Act.put, List.setIfInBounds_toArray, List.set_cons_zero, List.set_cons_succ]
    rfl
  refine take1_ (i := 6) (v := ?_) (a' := ?_) (some 34) #[true, true, true, true, true, true, true, false] rfl rfl (by kernel_rfl) (fun _ _ _ h => h) (Or.inl ⟨by rfl, ?_⟩) hHeld ?_ ?_
  rotate_left
  · (intro w hSw; (try dsimp only at hSw); go_simp; (try with_reducible rfl))
  rotate_left
  · simp only [Act.put, List.setIfInBounds_toArray, List.set_cons_zero, List.set_cons_succ]
    rfl
  refine loud1_ (i := 7) (some 35) #[true, true, true, true, true, true, true, true] rfl rfl (by kernel_rfl) (fun K hK => ?_)
  go_simp
  (go_at_call 181; refine HC3.out.mono ?_; rintro e w4 ⟨rfl, hcw, hbw⟩; have HW4 := Lib.hid hcw; have HB4 := Lib.hid (HB3.out.drew.trans hbw); have hnx := HB4.out; clear hcw hbw)
  refine hK.out _ _ (by exact hnx) (fun hHeld' => ?_)
  clear hK K hHeld
  have hHeld := hHeld'
  clear hHeld'
  try simp only [Act.put, List.setIfInBounds_toArray, List.set_cons_zero, List.set_cons_succ]
  refine wpAnyH_done (by kernel_rfl) ?_ _
  clear hHeld hnx HC3 HW3
  go_wp2
  go_end0
  have hE : l ++ fB [(4, at_), (4, (ver : Int)), (2, links), (1, kind)] = ((((l ++ wB 4 at_.toNat) ++ wB 4 ver) ++ wB 2 links.toNat) ++ wB 1 kind.toNat) := by simp [fB, List.append_assoc]
  have hF : (bad || fBad [(4, at_), (4, (ver : Int)), (2, links), (1, kind)]) = (((((((bad || decide (at_ < 0)) || !fitB 4 at_.toNat) || !fitB 4 ver) || decide (links < 0)) || !fitB 2 links.toNat) || decide (kind < 0)) || !fitB 1 kind.toNat) := by simp [fBad, Bool.or_assoc, nat_neg]
  rw [hE, hF]
  exact ⟨rfl, HW4.out, HB4.out⟩
set_option maxRecDepth 10000 in
set_option maxHeartbeats 8000000 in
theorem pw_use (live : Int) (state : Int) (age : Nat) (pb po : Nat) (h : CwAt w base g l bad) (h0 : w.cell? ⟨pb, po, none⟩ = some (.int .i64 live)) (h1 : w.cell? ⟨pb, po + 1, none⟩ = some (.int .i64 state)) (h2 : w.cell? ⟨pb, po + 2, none⟩ = some (.int .u32 (age : Int))) (r0 : -9223372036854775808 ≤ live ∧ live ≤ 9223372036854775807) (r1 : -9223372036854775808 ≤ state ∧ state ≤ 9223372036854775807) (r2 : age < 2 ^ 32) (hl : l.length ≤ 90000) (hbs : base ≤ w.heap.size) (hpb : pb < base) :
    Calls Try.prog 141 #[wV g, .pointer (some ⟨pb, po, none⟩)] w (CwTo w base g (l ++ fB [(2, live), (1, state), (4, (age : Int))]) (bad || fBad [(2, live), (1, state), (4, (age : Int))])) := by
  have HW0 := Lib.hid h
  have HB0 := Lib.hid (Below.refl base w)
  have HL0 := hl
  clear h
  have na_int := fun W => na_w ⟨g, 0, none⟩ W "drumlin/codec.int" (by simp)
  have mt_int := fun W => mw_int ⟨g, 0, none⟩ W
  have na_word := fun W => na_w ⟨g, 0, none⟩ W "drumlin/codec.word" (by simp)
  have mt_word := fun W => mw_word ⟨g, 0, none⟩ W
  have H0 := Lib.hid h0
  have H1 := Lib.hid h1
  have H2 := Lib.hid h2
  clear h0 h1 h2
  unfold wV
  go_enter Try.func141, Try.ntmps141
  go_upto_region 0 with fail
  have HC0 := Lib.hid (cw_int 2 live pb (po) (HW0.out.below (Below.refl _ w).drew) (by decide) r0 ((HB0.out.drew.cell (p := ⟨pb, po, none⟩) hpb).trans H0.out) (by (try simp only [List.length_append, wB_len]); omega) (Nat.le_trans hbs HB0.out.size))
  unfold CwTo at HC0
  refine wp_region_held_drew (S := (fun w' => Below base w w')) (by kernel_rfl) (by exact HB0.out.drew) (fun hHeld => ?_)
  refine take1_ (i := 0) (v := ?_) (a' := ?_) (some 4) #[true, false, false, false, false, false, false, false] rfl rfl (by kernel_rfl) (fun _ _ _ h => h) (Or.inl ⟨by rfl, ?_⟩) hHeld ?_ ?_
  rotate_left
  · (intro w hSw; (try dsimp only at hSw); go_simp; (try with_reducible rfl))
  rotate_left
  · simp only [Act.put, List.setIfInBounds_toArray, List.set_cons_zero, List.set_cons_succ]
    rfl
  refine take1_ (i := 1) (v := ?_) (a' := ?_) (some 5) #[true, true, false, false, false, false, false, false] rfl rfl (by kernel_rfl) (fun _ _ _ h => h) (Or.inl ⟨by rfl, ?_⟩) hHeld ?_ ?_
  rotate_left
  · (intro w hSw; (try dsimp only at hSw); go_simp; (try with_reducible rfl))
  rotate_left
  · simp only [Act.put, List.setIfInBounds_toArray, List.set_cons_zero, List.set_cons_succ]
    rfl
  refine take1_ (i := 2) (v := ?_) (a' := ?_) (some 6) #[true, true, true, false, false, false, false, false] rfl rfl (by kernel_rfl) (fun _ _ _ h => h) (Or.inl ⟨by rfl, ?_⟩) hHeld ?_ ?_
  rotate_left
  · (intro w hSw; (try dsimp only at hSw); go_simp; (try with_reducible rfl))
  rotate_left
  · simp only [Act.put, List.setIfInBounds_toArray, List.set_cons_zero, List.set_cons_succ]
    rfl
  refine take1_ (i := 3) (v := ?_) (a' := ?_) (some 7) #[true, true, true, true, false, false, false, false] rfl rfl (by kernel_rfl) (fun _ _ _ h => h) (Or.inl ⟨by rfl, ?_⟩) hHeld ?_ ?_
  rotate_left
  · (intro w hSw; (try dsimp only at hSw); go_simp; (try with_reducible rfl))
  rotate_left
  · simp only [Act.put, List.setIfInBounds_toArray, List.set_cons_zero, List.set_cons_succ]
    rfl
  refine take1_ (i := 4) (v := ?_) (a' := ?_) (some 8) #[true, true, true, true, true, false, false, false] rfl rfl (by kernel_rfl) (fun _ _ _ h => h) (Or.inl ⟨by rfl, ?_⟩) hHeld ?_ ?_
  rotate_left
  · (intro w hSw; (try dsimp only at hSw); go_simp; (try with_reducible rfl))
  rotate_left
  · simp only [Act.put, List.setIfInBounds_toArray, List.set_cons_zero, List.set_cons_succ]
    rfl
  refine take1_ (i := 5) (v := ?_) (a' := ?_) (some 9) #[true, true, true, true, true, true, false, false] rfl rfl (by kernel_rfl) (fun _ _ _ h => h) (Or.inl ⟨by rfl, ?_⟩) hHeld ?_ ?_
  rotate_left
  · (intro w hSw; (try dsimp only at hSw); go_simp; (try with_reducible rfl))
  rotate_left
  · simp only [Act.put, List.setIfInBounds_toArray, List.set_cons_zero, List.set_cons_succ]
    rfl
  refine take1_ (i := 6) (v := ?_) (a' := ?_) (some 10) #[true, true, true, true, true, true, true, false] rfl rfl (by kernel_rfl) (fun _ _ _ h => h) (Or.inl ⟨by rfl, ?_⟩) hHeld ?_ ?_
  rotate_left
  · (intro w hSw; (try dsimp only at hSw); go_simp; (try with_reducible rfl))
  rotate_left
  · simp only [Act.put, List.setIfInBounds_toArray, List.set_cons_zero, List.set_cons_succ]
    rfl
  refine loud1_ (i := 7) (some 11) #[true, true, true, true, true, true, true, true] rfl rfl (by kernel_rfl) (fun K hK => ?_)
  go_simp
  (go_at_call 181; refine HC0.out.mono ?_; rintro e w1 ⟨rfl, hcw, hbw⟩; have HW1 := Lib.hid hcw; have HB1 := Lib.hid (HB0.out.drew.trans hbw); have hnx := HB1.out; clear hcw hbw)
  refine hK.out _ _ (by exact hnx) (fun hHeld' => ?_)
  clear hK K hHeld
  have hHeld := hHeld'
  clear hHeld'
  try simp only [Act.put, List.setIfInBounds_toArray, List.set_cons_zero, List.set_cons_succ]
  refine wpAnyH_done (by kernel_rfl) ?_ _
  clear hHeld hnx HC0 HW0
  go_upto_region 1 with fail
  have HC1 := Lib.hid (cw_int 1 state pb (po + 1) (HW1.out.below (Below.refl _ w1).drew) (by decide) r1 ((HB1.out.drew.cell (p := ⟨pb, po + 1, none⟩) hpb).trans H1.out) (by (try simp only [List.length_append, wB_len]); omega) (Nat.le_trans hbs HB1.out.size))
  unfold CwTo at HC1
  refine wp_region_held_drew (S := (fun w' => Below base w w')) (by kernel_rfl) (by exact HB1.out.drew) (fun hHeld => ?_)
  refine take1_ (i := 0) (v := ?_) (a' := ?_) (some 12) #[true, false, false, false, false, false, false, false] rfl rfl (by kernel_rfl) (fun _ _ _ h => h) (Or.inl ⟨by rfl, ?_⟩) hHeld ?_ ?_
  rotate_left
  · (intro w hSw; (try dsimp only at hSw); go_simp; (try with_reducible rfl))
  rotate_left
  · simp only [Act.put, List.setIfInBounds_toArray, List.set_cons_zero, List.set_cons_succ]
    rfl
  refine take1_ (i := 1) (v := ?_) (a' := ?_) (some 13) #[true, true, false, false, false, false, false, false] rfl rfl (by kernel_rfl) (fun _ _ _ h => h) (Or.inl ⟨by rfl, ?_⟩) hHeld ?_ ?_
  rotate_left
  · (intro w hSw; (try dsimp only at hSw); go_simp; (try with_reducible rfl))
  rotate_left
  · simp only [Act.put, List.setIfInBounds_toArray, List.set_cons_zero, List.set_cons_succ]
    rfl
  refine take1_ (i := 2) (v := ?_) (a' := ?_) (some 14) #[true, true, true, false, false, false, false, false] rfl rfl (by kernel_rfl) (fun _ _ _ h => h) (Or.inl ⟨by rfl, ?_⟩) hHeld ?_ ?_
  rotate_left
  · (intro w hSw; (try dsimp only at hSw); go_simp; (try with_reducible rfl))
  rotate_left
  · simp only [Act.put, List.setIfInBounds_toArray, List.set_cons_zero, List.set_cons_succ]
    rfl
  refine take1_ (i := 3) (v := ?_) (a' := ?_) (some 15) #[true, true, true, true, false, false, false, false] rfl rfl (by kernel_rfl) (fun _ _ _ h => h) (Or.inl ⟨by rfl, ?_⟩) hHeld ?_ ?_
  rotate_left
  · (intro w hSw; (try dsimp only at hSw); go_simp; (try with_reducible rfl))
  rotate_left
  · simp only [Act.put, List.setIfInBounds_toArray, List.set_cons_zero, List.set_cons_succ]
    rfl
  refine take1_ (i := 4) (v := ?_) (a' := ?_) (some 16) #[true, true, true, true, true, false, false, false] rfl rfl (by kernel_rfl) (fun _ _ _ h => h) (Or.inl ⟨by rfl, ?_⟩) hHeld ?_ ?_
  rotate_left
  · (intro w hSw; (try dsimp only at hSw); go_simp; (try with_reducible rfl))
  rotate_left
  · simp only [Act.put, List.setIfInBounds_toArray, List.set_cons_zero, List.set_cons_succ]
    rfl
  refine take1_ (i := 5) (v := ?_) (a' := ?_) (some 17) #[true, true, true, true, true, true, false, false] rfl rfl (by kernel_rfl) (fun _ _ _ h => h) (Or.inl ⟨by rfl, ?_⟩) hHeld ?_ ?_
  rotate_left
  · (intro w hSw; (try dsimp only at hSw); go_simp; (try with_reducible rfl))
  rotate_left
  · simp only [Act.put, List.setIfInBounds_toArray, List.set_cons_zero, List.set_cons_succ]
    rfl
  refine take1_ (i := 6) (v := ?_) (a' := ?_) (some 18) #[true, true, true, true, true, true, true, false] rfl rfl (by kernel_rfl) (fun _ _ _ h => h) (Or.inl ⟨by rfl, ?_⟩) hHeld ?_ ?_
  rotate_left
  · (intro w hSw; (try dsimp only at hSw); go_simp; (try with_reducible rfl))
  rotate_left
  · simp only [Act.put, List.setIfInBounds_toArray, List.set_cons_zero, List.set_cons_succ]
    rfl
  refine loud1_ (i := 7) (some 19) #[true, true, true, true, true, true, true, true] rfl rfl (by kernel_rfl) (fun K hK => ?_)
  go_simp
  (go_at_call 181; refine HC1.out.mono ?_; rintro e w2 ⟨rfl, hcw, hbw⟩; have HW2 := Lib.hid hcw; have HB2 := Lib.hid (HB1.out.drew.trans hbw); have hnx := HB2.out; clear hcw hbw)
  refine hK.out _ _ (by exact hnx) (fun hHeld' => ?_)
  clear hK K hHeld
  have hHeld := hHeld'
  clear hHeld'
  try simp only [Act.put, List.setIfInBounds_toArray, List.set_cons_zero, List.set_cons_succ]
  refine wpAnyH_done (by kernel_rfl) ?_ _
  clear hHeld hnx HC1 HW1
  go_upto_region 2 with fail
  have HC2 := Lib.hid (cw_word 4 age pb (po + 2) (HW2.out.below (Below.refl _ w2).drew) (by decide) r2 ((HB2.out.drew.cell (p := ⟨pb, po + 2, none⟩) hpb).trans H2.out) (by (try simp only [List.length_append, wB_len]); omega) (Nat.le_trans hbs HB2.out.size))
  unfold CwTo at HC2
  refine wp_region_held_drew (S := (fun w' => Below base w w')) (by kernel_rfl) (by exact HB2.out.drew) (fun hHeld => ?_)
  refine take1_ (i := 0) (v := ?_) (a' := ?_) (some 20) #[true, false, false, false, false, false, false, false] rfl rfl (by kernel_rfl) (fun _ _ _ h => h) (Or.inl ⟨by rfl, ?_⟩) hHeld ?_ ?_
  rotate_left
  · (intro w hSw; (try dsimp only at hSw); go_simp; (try with_reducible rfl))
  rotate_left
  · simp only [Act.put, List.setIfInBounds_toArray, List.set_cons_zero, List.set_cons_succ]
    rfl
  refine take1_ (i := 1) (v := ?_) (a' := ?_) (some 21) #[true, true, false, false, false, false, false, false] rfl rfl (by kernel_rfl) (fun _ _ _ h => h) (Or.inl ⟨by rfl, ?_⟩) hHeld ?_ ?_
  rotate_left
  · (intro w hSw; (try dsimp only at hSw); go_simp; (try with_reducible rfl))
  rotate_left
  · simp only [Act.put, List.setIfInBounds_toArray, List.set_cons_zero, List.set_cons_succ]
    rfl
  refine take1_ (i := 2) (v := ?_) (a' := ?_) (some 22) #[true, true, true, false, false, false, false, false] rfl rfl (by kernel_rfl) (fun _ _ _ h => h) (Or.inl ⟨by rfl, ?_⟩) hHeld ?_ ?_
  rotate_left
  · (intro w hSw; (try dsimp only at hSw); go_simp; (try with_reducible rfl))
  rotate_left
  · simp only [Act.put, List.setIfInBounds_toArray, List.set_cons_zero, List.set_cons_succ]
    rfl
  refine take1_ (i := 3) (v := ?_) (a' := ?_) (some 23) #[true, true, true, true, false, false, false, false] rfl rfl (by kernel_rfl) (fun _ _ _ h => h) (Or.inl ⟨by rfl, ?_⟩) hHeld ?_ ?_
  rotate_left
  · (intro w hSw; (try dsimp only at hSw); go_simp; (try with_reducible rfl))
  rotate_left
  · simp only [Act.put, List.setIfInBounds_toArray, List.set_cons_zero, List.set_cons_succ]
    rfl
  refine take1_ (i := 4) (v := ?_) (a' := ?_) (some 24) #[true, true, true, true, true, false, false, false] rfl rfl (by kernel_rfl) (fun _ _ _ h => h) (Or.inl ⟨by rfl, ?_⟩) hHeld ?_ ?_
  rotate_left
  · (intro w hSw; (try dsimp only at hSw); go_simp; (try with_reducible rfl))
  rotate_left
  · simp only [Act.put, List.setIfInBounds_toArray, List.set_cons_zero, List.set_cons_succ]
    rfl
  refine take1_ (i := 5) (v := ?_) (a' := ?_) (some 25) #[true, true, true, true, true, true, false, false] rfl rfl (by kernel_rfl) (fun _ _ _ h => h) (Or.inl ⟨by rfl, ?_⟩) hHeld ?_ ?_
  rotate_left
  · (intro w hSw; (try dsimp only at hSw); go_simp; (try with_reducible rfl))
  rotate_left
  · simp only [Act.put, List.setIfInBounds_toArray, List.set_cons_zero, List.set_cons_succ]
    rfl
  refine take1_ (i := 6) (v := ?_) (a' := ?_) (some 26) #[true, true, true, true, true, true, true, false] rfl rfl (by kernel_rfl) (fun _ _ _ h => h) (Or.inl ⟨by rfl, ?_⟩) hHeld ?_ ?_
  rotate_left
  · (intro w hSw; (try dsimp only at hSw); go_simp; (try with_reducible rfl))
  rotate_left
  · simp only [Act.put, List.setIfInBounds_toArray, List.set_cons_zero, List.set_cons_succ]
    rfl
  refine loud1_ (i := 7) (some 27) #[true, true, true, true, true, true, true, true] rfl rfl (by kernel_rfl) (fun K hK => ?_)
  go_simp
  (go_at_call 184; refine HC2.out.mono ?_; rintro e w3 ⟨rfl, hcw, hbw⟩; have HW3 := Lib.hid hcw; have HB3 := Lib.hid (HB2.out.drew.trans hbw); have hnx := HB3.out; clear hcw hbw)
  refine hK.out _ _ (by exact hnx) (fun hHeld' => ?_)
  clear hK K hHeld
  have hHeld := hHeld'
  clear hHeld'
  try simp only [Act.put, List.setIfInBounds_toArray, List.set_cons_zero, List.set_cons_succ]
  refine wpAnyH_done (by kernel_rfl) ?_ _
  clear hHeld hnx HC2 HW2
  go_wp2
  go_end0
  have hE : l ++ fB [(2, live), (1, state), (4, (age : Int))] = (((l ++ wB 2 live.toNat) ++ wB 1 state.toNat) ++ wB 4 age) := by simp [fB, List.append_assoc]
  have hF : (bad || fBad [(2, live), (1, state), (4, (age : Int))]) = (((((bad || decide (live < 0)) || !fitB 2 live.toNat) || decide (state < 0)) || !fitB 1 state.toNat) || !fitB 4 age) := by simp [fBad, Bool.or_assoc, nat_neg]
  rw [hE, hF]
  exact ⟨rfl, HW3.out, HB3.out⟩
set_option maxRecDepth 10000 in
set_option maxHeartbeats 8000000 in
theorem pw_record (num : Nat) (ver : Nat) (links : Int) (kind : Int) (pb po : Nat) (h : CwAt w base g l bad) (h0 : w.cell? ⟨pb, po, none⟩ = some (.int .u32 (num : Int))) (h1 : w.cell? ⟨pb, po + 1, none⟩ = some (.int .u32 (ver : Int))) (h2 : w.cell? ⟨pb, po + 2, none⟩ = some (.int .i64 links)) (h3 : w.cell? ⟨pb, po + 3, none⟩ = some (.int .i64 kind)) (r0 : num < 2 ^ 32) (r1 : ver < 2 ^ 32) (r2 : -9223372036854775808 ≤ links ∧ links ≤ 9223372036854775807) (r3 : -9223372036854775808 ≤ kind ∧ kind ≤ 9223372036854775807) (hl : l.length ≤ 90000) (hbs : base ≤ w.heap.size) (hpb : pb < base) :
    Calls Try.prog 116 #[wV g, .pointer (some ⟨pb, po, none⟩)] w (CwTo w base g (l ++ fB [(2, (num : Int)), (4, (ver : Int)), (2, links), (1, kind)]) (bad || fBad [(2, (num : Int)), (4, (ver : Int)), (2, links), (1, kind)])) := by
  have HW0 := Lib.hid h
  have HB0 := Lib.hid (Below.refl base w)
  have HL0 := hl
  clear h
  have na_word := fun W => na_w ⟨g, 0, none⟩ W "drumlin/codec.word" (by simp)
  have mt_word := fun W => mw_word ⟨g, 0, none⟩ W
  have na_int := fun W => na_w ⟨g, 0, none⟩ W "drumlin/codec.int" (by simp)
  have mt_int := fun W => mw_int ⟨g, 0, none⟩ W
  have H0 := Lib.hid h0
  have H1 := Lib.hid h1
  have H2 := Lib.hid h2
  have H3 := Lib.hid h3
  clear h0 h1 h2 h3
  unfold wV
  go_enter Try.func116, Try.ntmps116
  go_upto_region 0 with fail
  have HC0 := Lib.hid (cw_word 2 num pb (po) (HW0.out.below (Below.refl _ w).drew) (by decide) r0 ((HB0.out.drew.cell (p := ⟨pb, po, none⟩) hpb).trans H0.out) (by (try simp only [List.length_append, wB_len]); omega) (Nat.le_trans hbs HB0.out.size))
  unfold CwTo at HC0
  refine wp_region_held_drew (S := (fun w' => Below base w w')) (by kernel_rfl) (by exact HB0.out.drew) (fun hHeld => ?_)
  refine take1_ (i := 0) (v := ?_) (a' := ?_) (some 4) #[true, false, false, false, false, false, false, false] rfl rfl (by kernel_rfl) (fun _ _ _ h => h) (Or.inl ⟨by rfl, ?_⟩) hHeld ?_ ?_
  rotate_left
  · (intro w hSw; (try dsimp only at hSw); go_simp; (try with_reducible rfl))
  rotate_left
  · simp only [Act.put, List.setIfInBounds_toArray, List.set_cons_zero, List.set_cons_succ]
    rfl
  refine take1_ (i := 1) (v := ?_) (a' := ?_) (some 5) #[true, true, false, false, false, false, false, false] rfl rfl (by kernel_rfl) (fun _ _ _ h => h) (Or.inl ⟨by rfl, ?_⟩) hHeld ?_ ?_
  rotate_left
  · (intro w hSw; (try dsimp only at hSw); go_simp; (try with_reducible rfl))
  rotate_left
  · simp only [Act.put, List.setIfInBounds_toArray, List.set_cons_zero, List.set_cons_succ]
    rfl
  refine take1_ (i := 2) (v := ?_) (a' := ?_) (some 6) #[true, true, true, false, false, false, false, false] rfl rfl (by kernel_rfl) (fun _ _ _ h => h) (Or.inl ⟨by rfl, ?_⟩) hHeld ?_ ?_
  rotate_left
  · (intro w hSw; (try dsimp only at hSw); go_simp; (try with_reducible rfl))
  rotate_left
  · simp only [Act.put, List.setIfInBounds_toArray, List.set_cons_zero, List.set_cons_succ]
    rfl
  refine take1_ (i := 3) (v := ?_) (a' := ?_) (some 7) #[true, true, true, true, false, false, false, false] rfl rfl (by kernel_rfl) (fun _ _ _ h => h) (Or.inl ⟨by rfl, ?_⟩) hHeld ?_ ?_
  rotate_left
  · (intro w hSw; (try dsimp only at hSw); go_simp; (try with_reducible rfl))
  rotate_left
  · simp only [Act.put, List.setIfInBounds_toArray, List.set_cons_zero, List.set_cons_succ]
    rfl
  refine take1_ (i := 4) (v := ?_) (a' := ?_) (some 8) #[true, true, true, true, true, false, false, false] rfl rfl (by kernel_rfl) (fun _ _ _ h => h) (Or.inl ⟨by rfl, ?_⟩) hHeld ?_ ?_
  rotate_left
  · (intro w hSw; (try dsimp only at hSw); go_simp; (try with_reducible rfl))
  rotate_left
  · simp only [Act.put, List.setIfInBounds_toArray, List.set_cons_zero, List.set_cons_succ]
    rfl
  refine take1_ (i := 5) (v := ?_) (a' := ?_) (some 9) #[true, true, true, true, true, true, false, false] rfl rfl (by kernel_rfl) (fun _ _ _ h => h) (Or.inl ⟨by rfl, ?_⟩) hHeld ?_ ?_
  rotate_left
  · (intro w hSw; (try dsimp only at hSw); go_simp; (try with_reducible rfl))
  rotate_left
  · simp only [Act.put, List.setIfInBounds_toArray, List.set_cons_zero, List.set_cons_succ]
    rfl
  refine take1_ (i := 6) (v := ?_) (a' := ?_) (some 10) #[true, true, true, true, true, true, true, false] rfl rfl (by kernel_rfl) (fun _ _ _ h => h) (Or.inl ⟨by rfl, ?_⟩) hHeld ?_ ?_
  rotate_left
  · (intro w hSw; (try dsimp only at hSw); go_simp; (try with_reducible rfl))
  rotate_left
  · simp only [Act.put, List.setIfInBounds_toArray, List.set_cons_zero, List.set_cons_succ]
    rfl
  refine loud1_ (i := 7) (some 11) #[true, true, true, true, true, true, true, true] rfl rfl (by kernel_rfl) (fun K hK => ?_)
  go_simp
  (go_at_call 184; refine HC0.out.mono ?_; rintro e w1 ⟨rfl, hcw, hbw⟩; have HW1 := Lib.hid hcw; have HB1 := Lib.hid (HB0.out.drew.trans hbw); have hnx := HB1.out; clear hcw hbw)
  refine hK.out _ _ (by exact hnx) (fun hHeld' => ?_)
  clear hK K hHeld
  have hHeld := hHeld'
  clear hHeld'
  try simp only [Act.put, List.setIfInBounds_toArray, List.set_cons_zero, List.set_cons_succ]
  refine wpAnyH_done (by kernel_rfl) ?_ _
  clear hHeld hnx HC0 HW0
  go_upto_region 1 with fail
  have HC1 := Lib.hid (cw_word 4 ver pb (po + 1) (HW1.out.below (Below.refl _ w1).drew) (by decide) r1 ((HB1.out.drew.cell (p := ⟨pb, po + 1, none⟩) hpb).trans H1.out) (by (try simp only [List.length_append, wB_len]); omega) (Nat.le_trans hbs HB1.out.size))
  unfold CwTo at HC1
  refine wp_region_held_drew (S := (fun w' => Below base w w')) (by kernel_rfl) (by exact HB1.out.drew) (fun hHeld => ?_)
  refine take1_ (i := 0) (v := ?_) (a' := ?_) (some 12) #[true, false, false, false, false, false, false, false] rfl rfl (by kernel_rfl) (fun _ _ _ h => h) (Or.inl ⟨by rfl, ?_⟩) hHeld ?_ ?_
  rotate_left
  · (intro w hSw; (try dsimp only at hSw); go_simp; (try with_reducible rfl))
  rotate_left
  · simp only [Act.put, List.setIfInBounds_toArray, List.set_cons_zero, List.set_cons_succ]
    rfl
  refine take1_ (i := 1) (v := ?_) (a' := ?_) (some 13) #[true, true, false, false, false, false, false, false] rfl rfl (by kernel_rfl) (fun _ _ _ h => h) (Or.inl ⟨by rfl, ?_⟩) hHeld ?_ ?_
  rotate_left
  · (intro w hSw; (try dsimp only at hSw); go_simp; (try with_reducible rfl))
  rotate_left
  · simp only [Act.put, List.setIfInBounds_toArray, List.set_cons_zero, List.set_cons_succ]
    rfl
  refine take1_ (i := 2) (v := ?_) (a' := ?_) (some 14) #[true, true, true, false, false, false, false, false] rfl rfl (by kernel_rfl) (fun _ _ _ h => h) (Or.inl ⟨by rfl, ?_⟩) hHeld ?_ ?_
  rotate_left
  · (intro w hSw; (try dsimp only at hSw); go_simp; (try with_reducible rfl))
  rotate_left
  · simp only [Act.put, List.setIfInBounds_toArray, List.set_cons_zero, List.set_cons_succ]
    rfl
  refine take1_ (i := 3) (v := ?_) (a' := ?_) (some 15) #[true, true, true, true, false, false, false, false] rfl rfl (by kernel_rfl) (fun _ _ _ h => h) (Or.inl ⟨by rfl, ?_⟩) hHeld ?_ ?_
  rotate_left
  · (intro w hSw; (try dsimp only at hSw); go_simp; (try with_reducible rfl))
  rotate_left
  · simp only [Act.put, List.setIfInBounds_toArray, List.set_cons_zero, List.set_cons_succ]
    rfl
  refine take1_ (i := 4) (v := ?_) (a' := ?_) (some 16) #[true, true, true, true, true, false, false, false] rfl rfl (by kernel_rfl) (fun _ _ _ h => h) (Or.inl ⟨by rfl, ?_⟩) hHeld ?_ ?_
  rotate_left
  · (intro w hSw; (try dsimp only at hSw); go_simp; (try with_reducible rfl))
  rotate_left
  · simp only [Act.put, List.setIfInBounds_toArray, List.set_cons_zero, List.set_cons_succ]
    rfl
  refine take1_ (i := 5) (v := ?_) (a' := ?_) (some 17) #[true, true, true, true, true, true, false, false] rfl rfl (by kernel_rfl) (fun _ _ _ h => h) (Or.inl ⟨by rfl, ?_⟩) hHeld ?_ ?_
  rotate_left
  · (intro w hSw; (try dsimp only at hSw); go_simp; (try with_reducible rfl))
  rotate_left
  · simp only [Act.put, List.setIfInBounds_toArray, List.set_cons_zero, List.set_cons_succ]
    rfl
  refine take1_ (i := 6) (v := ?_) (a' := ?_) (some 18) #[true, true, true, true, true, true, true, false] rfl rfl (by kernel_rfl) (fun _ _ _ h => h) (Or.inl ⟨by rfl, ?_⟩) hHeld ?_ ?_
  rotate_left
  · (intro w hSw; (try dsimp only at hSw); go_simp; (try with_reducible rfl))
  rotate_left
  · simp only [Act.put, List.setIfInBounds_toArray, List.set_cons_zero, List.set_cons_succ]
    rfl
  refine loud1_ (i := 7) (some 19) #[true, true, true, true, true, true, true, true] rfl rfl (by kernel_rfl) (fun K hK => ?_)
  go_simp
  (go_at_call 184; refine HC1.out.mono ?_; rintro e w2 ⟨rfl, hcw, hbw⟩; have HW2 := Lib.hid hcw; have HB2 := Lib.hid (HB1.out.drew.trans hbw); have hnx := HB2.out; clear hcw hbw)
  refine hK.out _ _ (by exact hnx) (fun hHeld' => ?_)
  clear hK K hHeld
  have hHeld := hHeld'
  clear hHeld'
  try simp only [Act.put, List.setIfInBounds_toArray, List.set_cons_zero, List.set_cons_succ]
  refine wpAnyH_done (by kernel_rfl) ?_ _
  clear hHeld hnx HC1 HW1
  go_upto_region 2 with fail
  have HC2 := Lib.hid (cw_int 2 links pb (po + 2) (HW2.out.below (Below.refl _ w2).drew) (by decide) r2 ((HB2.out.drew.cell (p := ⟨pb, po + 2, none⟩) hpb).trans H2.out) (by (try simp only [List.length_append, wB_len]); omega) (Nat.le_trans hbs HB2.out.size))
  unfold CwTo at HC2
  refine wp_region_held_drew (S := (fun w' => Below base w w')) (by kernel_rfl) (by exact HB2.out.drew) (fun hHeld => ?_)
  refine take1_ (i := 0) (v := ?_) (a' := ?_) (some 20) #[true, false, false, false, false, false, false, false] rfl rfl (by kernel_rfl) (fun _ _ _ h => h) (Or.inl ⟨by rfl, ?_⟩) hHeld ?_ ?_
  rotate_left
  · (intro w hSw; (try dsimp only at hSw); go_simp; (try with_reducible rfl))
  rotate_left
  · simp only [Act.put, List.setIfInBounds_toArray, List.set_cons_zero, List.set_cons_succ]
    rfl
  refine take1_ (i := 1) (v := ?_) (a' := ?_) (some 21) #[true, true, false, false, false, false, false, false] rfl rfl (by kernel_rfl) (fun _ _ _ h => h) (Or.inl ⟨by rfl, ?_⟩) hHeld ?_ ?_
  rotate_left
  · (intro w hSw; (try dsimp only at hSw); go_simp; (try with_reducible rfl))
  rotate_left
  · simp only [Act.put, List.setIfInBounds_toArray, List.set_cons_zero, List.set_cons_succ]
    rfl
  refine take1_ (i := 2) (v := ?_) (a' := ?_) (some 22) #[true, true, true, false, false, false, false, false] rfl rfl (by kernel_rfl) (fun _ _ _ h => h) (Or.inl ⟨by rfl, ?_⟩) hHeld ?_ ?_
  rotate_left
  · (intro w hSw; (try dsimp only at hSw); go_simp; (try with_reducible rfl))
  rotate_left
  · simp only [Act.put, List.setIfInBounds_toArray, List.set_cons_zero, List.set_cons_succ]
    rfl
  refine take1_ (i := 3) (v := ?_) (a' := ?_) (some 23) #[true, true, true, true, false, false, false, false] rfl rfl (by kernel_rfl) (fun _ _ _ h => h) (Or.inl ⟨by rfl, ?_⟩) hHeld ?_ ?_
  rotate_left
  · (intro w hSw; (try dsimp only at hSw); go_simp; (try with_reducible rfl))
  rotate_left
  · simp only [Act.put, List.setIfInBounds_toArray, List.set_cons_zero, List.set_cons_succ]
    rfl
  refine take1_ (i := 4) (v := ?_) (a' := ?_) (some 24) #[true, true, true, true, true, false, false, false] rfl rfl (by kernel_rfl) (fun _ _ _ h => h) (Or.inl ⟨by rfl, ?_⟩) hHeld ?_ ?_
  rotate_left
  · (intro w hSw; (try dsimp only at hSw); go_simp; (try with_reducible rfl))
  rotate_left
  · simp only [Act.put, List.setIfInBounds_toArray, List.set_cons_zero, List.set_cons_succ]
    rfl
  refine take1_ (i := 5) (v := ?_) (a' := ?_) (some 25) #[true, true, true, true, true, true, false, false] rfl rfl (by kernel_rfl) (fun _ _ _ h => h) (Or.inl ⟨by rfl, ?_⟩) hHeld ?_ ?_
  rotate_left
  · (intro w hSw; (try dsimp only at hSw); go_simp; (try with_reducible rfl))
  rotate_left
  · simp only [Act.put, List.setIfInBounds_toArray, List.set_cons_zero, List.set_cons_succ]
    rfl
  refine take1_ (i := 6) (v := ?_) (a' := ?_) (some 26) #[true, true, true, true, true, true, true, false] rfl rfl (by kernel_rfl) (fun _ _ _ h => h) (Or.inl ⟨by rfl, ?_⟩) hHeld ?_ ?_
  rotate_left
  · (intro w hSw; (try dsimp only at hSw); go_simp; (try with_reducible rfl))
  rotate_left
  · simp only [Act.put, List.setIfInBounds_toArray, List.set_cons_zero, List.set_cons_succ]
    rfl
  refine loud1_ (i := 7) (some 27) #[true, true, true, true, true, true, true, true] rfl rfl (by kernel_rfl) (fun K hK => ?_)
  go_simp
  (go_at_call 181; refine HC2.out.mono ?_; rintro e w3 ⟨rfl, hcw, hbw⟩; have HW3 := Lib.hid hcw; have HB3 := Lib.hid (HB2.out.drew.trans hbw); have hnx := HB3.out; clear hcw hbw)
  refine hK.out _ _ (by exact hnx) (fun hHeld' => ?_)
  clear hK K hHeld
  have hHeld := hHeld'
  clear hHeld'
  try simp only [Act.put, List.setIfInBounds_toArray, List.set_cons_zero, List.set_cons_succ]
  refine wpAnyH_done (by kernel_rfl) ?_ _
  clear hHeld hnx HC2 HW2
  go_upto_region 3 with fail
  have HC3 := Lib.hid (cw_int 1 kind pb (po + 3) (HW3.out.below (Below.refl _ w3).drew) (by decide) r3 ((HB3.out.drew.cell (p := ⟨pb, po + 3, none⟩) hpb).trans H3.out) (by (try simp only [List.length_append, wB_len]); omega) (Nat.le_trans hbs HB3.out.size))
  unfold CwTo at HC3
  refine wp_region_held_drew (S := (fun w' => Below base w w')) (by kernel_rfl) (by exact HB3.out.drew) (fun hHeld => ?_)
  refine take1_ (i := 0) (v := ?_) (a' := ?_) (some 28) #[true, false, false, false, false, false, false, false] rfl rfl (by kernel_rfl) (fun _ _ _ h => h) (Or.inl ⟨by rfl, ?_⟩) hHeld ?_ ?_
  rotate_left
  · (intro w hSw; (try dsimp only at hSw); go_simp; (try with_reducible rfl))
  rotate_left
  · simp only [Act.put, List.setIfInBounds_toArray, List.set_cons_zero, List.set_cons_succ]
    rfl
  refine take1_ (i := 1) (v := ?_) (a' := ?_) (some 29) #[true, true, false, false, false, false, false, false] rfl rfl (by kernel_rfl) (fun _ _ _ h => h) (Or.inl ⟨by rfl, ?_⟩) hHeld ?_ ?_
  rotate_left
  · (intro w hSw; (try dsimp only at hSw); go_simp; (try with_reducible rfl))
  rotate_left
  · simp only [Act.put, List.setIfInBounds_toArray, List.set_cons_zero, List.set_cons_succ]
    rfl
  refine take1_ (i := 2) (v := ?_) (a' := ?_) (some 30) #[true, true, true, false, false, false, false, false] rfl rfl (by kernel_rfl) (fun _ _ _ h => h) (Or.inl ⟨by rfl, ?_⟩) hHeld ?_ ?_
  rotate_left
  · (intro w hSw; (try dsimp only at hSw); go_simp; (try with_reducible rfl))
  rotate_left
  · simp only [Act.put, List.setIfInBounds_toArray, List.set_cons_zero, List.set_cons_succ]
    rfl
  refine take1_ (i := 3) (v := ?_) (a' := ?_) (some 31) #[true, true, true, true, false, false, false, false] rfl rfl (by kernel_rfl) (fun _ _ _ h => h) (Or.inl ⟨by rfl, ?_⟩) hHeld ?_ ?_
  rotate_left
  · (intro w hSw; (try dsimp only at hSw); go_simp; (try with_reducible rfl))
  rotate_left
  · simp only [Act.put, List.setIfInBounds_toArray, List.set_cons_zero, List.set_cons_succ]
    rfl
  refine take1_ (i := 4) (v := ?_) (a' := ?_) (some 32) #[true, true, true, true, true, false, false, false] rfl rfl (by kernel_rfl) (fun _ _ _ h => h) (Or.inl ⟨by rfl, ?_⟩) hHeld ?_ ?_
  rotate_left
  · (intro w hSw; (try dsimp only at hSw); go_simp; (try with_reducible rfl))
  rotate_left
  · simp only [Act.put, List.setIfInBounds_toArray, List.set_cons_zero, List.set_cons_succ]
    rfl
  refine take1_ (i := 5) (v := ?_) (a' := ?_) (some 33) #[true, true, true, true, true, true, false, false] rfl rfl (by kernel_rfl) (fun _ _ _ h => h) (Or.inl ⟨by rfl, ?_⟩) hHeld ?_ ?_
  rotate_left
  · (intro w hSw; (try dsimp only at hSw); go_simp; (try with_reducible rfl))
  rotate_left
  · simp only [Act.put, List.setIfInBounds_toArray, List.set_cons_zero, List.set_cons_succ]
    rfl
  refine take1_ (i := 6) (v := ?_) (a' := ?_) (some 34) #[true, true, true, true, true, true, true, false] rfl rfl (by kernel_rfl) (fun _ _ _ h => h) (Or.inl ⟨by rfl, ?_⟩) hHeld ?_ ?_
  rotate_left
  · (intro w hSw; (try dsimp only at hSw); go_simp; (try with_reducible rfl))
  rotate_left
  · simp only [Act.put, List.setIfInBounds_toArray, List.set_cons_zero, List.set_cons_succ]
    rfl
  refine loud1_ (i := 7) (some 35) #[true, true, true, true, true, true, true, true] rfl rfl (by kernel_rfl) (fun K hK => ?_)
  go_simp
  (go_at_call 181; refine HC3.out.mono ?_; rintro e w4 ⟨rfl, hcw, hbw⟩; have HW4 := Lib.hid hcw; have HB4 := Lib.hid (HB3.out.drew.trans hbw); have hnx := HB4.out; clear hcw hbw)
  refine hK.out _ _ (by exact hnx) (fun hHeld' => ?_)
  clear hK K hHeld
  have hHeld := hHeld'
  clear hHeld'
  try simp only [Act.put, List.setIfInBounds_toArray, List.set_cons_zero, List.set_cons_succ]
  refine wpAnyH_done (by kernel_rfl) ?_ _
  clear hHeld hnx HC3 HW3
  go_wp2
  go_end0
  have hE : l ++ fB [(2, (num : Int)), (4, (ver : Int)), (2, links), (1, kind)] = ((((l ++ wB 2 num) ++ wB 4 ver) ++ wB 2 links.toNat) ++ wB 1 kind.toNat) := by simp [fB, List.append_assoc]
  have hF : (bad || fBad [(2, (num : Int)), (4, (ver : Int)), (2, links), (1, kind)]) = ((((((bad || !fitB 2 num) || !fitB 4 ver) || decide (links < 0)) || !fitB 2 links.toNat) || decide (kind < 0)) || !fitB 1 kind.toNat) := by simp [fBad, Bool.or_assoc, nat_neg]
  rw [hE, hF]
  exact ⟨rfl, HW4.out, HB4.out⟩
set_option maxRecDepth 10000 in
set_option maxHeartbeats 8000000 in
theorem pw_header (serial : Nat) (seq : Nat) (seg : Int) (grp : Int) (next : Int) (time : Nat) (pb po : Nat) (h : CwAt w base g l bad) (h0 : w.cell? ⟨pb, po, none⟩ = some (.int .u64 (serial : Int))) (h1 : w.cell? ⟨pb, po + 1, none⟩ = some (.int .u64 (seq : Int))) (h2 : w.cell? ⟨pb, po + 2, none⟩ = some (.int .i64 seg)) (h3 : w.cell? ⟨pb, po + 3, none⟩ = some (.int .i64 grp)) (h4 : w.cell? ⟨pb, po + 4, none⟩ = some (.int .i64 next)) (h5 : w.cell? ⟨pb, po + 5, none⟩ = some (.int .u32 (time : Int))) (r0 : serial < 2 ^ 64) (r1 : seq < 2 ^ 64) (r2 : -9223372036854775808 ≤ seg ∧ seg ≤ 9223372036854775807) (r3 : -9223372036854775808 ≤ grp ∧ grp ≤ 9223372036854775807) (r4 : -9223372036854775808 ≤ next ∧ next ≤ 9223372036854775807) (r5 : time < 2 ^ 32) (hl : l.length ≤ 90000) (hbs : base ≤ w.heap.size) (hpb : pb < base) :
    Calls Try.prog 126 #[wV g, .pointer (some ⟨pb, po, none⟩)] w (CwTo w base g (l ++ fB [(8, (serial : Int)), (8, (seq : Int)), (2, seg), (2, grp), (2, next), (4, (time : Int))]) (bad || fBad [(8, (serial : Int)), (8, (seq : Int)), (2, seg), (2, grp), (2, next), (4, (time : Int))])) := by
  have HW0 := Lib.hid h
  have HB0 := Lib.hid (Below.refl base w)
  have HL0 := hl
  clear h
  have na_wide := fun W => na_w ⟨g, 0, none⟩ W "drumlin/codec.wide" (by simp)
  have mt_wide := fun W => mw_wide ⟨g, 0, none⟩ W
  have na_int := fun W => na_w ⟨g, 0, none⟩ W "drumlin/codec.int" (by simp)
  have mt_int := fun W => mw_int ⟨g, 0, none⟩ W
  have na_word := fun W => na_w ⟨g, 0, none⟩ W "drumlin/codec.word" (by simp)
  have mt_word := fun W => mw_word ⟨g, 0, none⟩ W
  have H0 := Lib.hid h0
  have H1 := Lib.hid h1
  have H2 := Lib.hid h2
  have H3 := Lib.hid h3
  have H4 := Lib.hid h4
  have H5 := Lib.hid h5
  clear h0 h1 h2 h3 h4 h5
  unfold wV
  go_enter Try.func126, Try.ntmps126
  go_upto_region 0 with fail
  have HC0 := Lib.hid (cw_wide 8 serial pb (po) (HW0.out.below (Below.refl _ w).drew) (by decide) r0 ((HB0.out.drew.cell (p := ⟨pb, po, none⟩) hpb).trans H0.out) (by (try simp only [List.length_append, wB_len]); omega) (Nat.le_trans hbs HB0.out.size))
  unfold CwTo at HC0
  refine wp_region_held_drew (S := (fun w' => Below base w w')) (by kernel_rfl) (by exact HB0.out.drew) (fun hHeld => ?_)
  refine take1_ (i := 0) (v := ?_) (a' := ?_) (some 4) #[true, false, false, false, false, false, false, false] rfl rfl (by kernel_rfl) (fun _ _ _ h => h) (Or.inl ⟨by rfl, ?_⟩) hHeld ?_ ?_
  rotate_left
  · (intro w hSw; (try dsimp only at hSw); go_simp; (try with_reducible rfl))
  rotate_left
  · simp only [Act.put, List.setIfInBounds_toArray, List.set_cons_zero, List.set_cons_succ]
    rfl
  refine take1_ (i := 1) (v := ?_) (a' := ?_) (some 5) #[true, true, false, false, false, false, false, false] rfl rfl (by kernel_rfl) (fun _ _ _ h => h) (Or.inl ⟨by rfl, ?_⟩) hHeld ?_ ?_
  rotate_left
  · (intro w hSw; (try dsimp only at hSw); go_simp; (try with_reducible rfl))
  rotate_left
  · simp only [Act.put, List.setIfInBounds_toArray, List.set_cons_zero, List.set_cons_succ]
    rfl
  refine take1_ (i := 2) (v := ?_) (a' := ?_) (some 6) #[true, true, true, false, false, false, false, false] rfl rfl (by kernel_rfl) (fun _ _ _ h => h) (Or.inl ⟨by rfl, ?_⟩) hHeld ?_ ?_
  rotate_left
  · (intro w hSw; (try dsimp only at hSw); go_simp; (try with_reducible rfl))
  rotate_left
  · simp only [Act.put, List.setIfInBounds_toArray, List.set_cons_zero, List.set_cons_succ]
    rfl
  refine take1_ (i := 3) (v := ?_) (a' := ?_) (some 7) #[true, true, true, true, false, false, false, false] rfl rfl (by kernel_rfl) (fun _ _ _ h => h) (Or.inl ⟨by rfl, ?_⟩) hHeld ?_ ?_
  rotate_left
  · (intro w hSw; (try dsimp only at hSw); go_simp; (try with_reducible rfl))
  rotate_left
  · simp only [Act.put, List.setIfInBounds_toArray, List.set_cons_zero, List.set_cons_succ]
    rfl
  refine take1_ (i := 4) (v := ?_) (a' := ?_) (some 8) #[true, true, true, true, true, false, false, false] rfl rfl (by kernel_rfl) (fun _ _ _ h => h) (Or.inl ⟨by rfl, ?_⟩) hHeld ?_ ?_
  rotate_left
  · (intro w hSw; (try dsimp only at hSw); go_simp; (try with_reducible rfl))
  rotate_left
  · simp only [Act.put, List.setIfInBounds_toArray, List.set_cons_zero, List.set_cons_succ]
    rfl
  refine take1_ (i := 5) (v := ?_) (a' := ?_) (some 9) #[true, true, true, true, true, true, false, false] rfl rfl (by kernel_rfl) (fun _ _ _ h => h) (Or.inl ⟨by rfl, ?_⟩) hHeld ?_ ?_
  rotate_left
  · (intro w hSw; (try dsimp only at hSw); go_simp; (try with_reducible rfl))
  rotate_left
  · simp only [Act.put, List.setIfInBounds_toArray, List.set_cons_zero, List.set_cons_succ]
    rfl
  refine take1_ (i := 6) (v := ?_) (a' := ?_) (some 10) #[true, true, true, true, true, true, true, false] rfl rfl (by kernel_rfl) (fun _ _ _ h => h) (Or.inl ⟨by rfl, ?_⟩) hHeld ?_ ?_
  rotate_left
  · (intro w hSw; (try dsimp only at hSw); go_simp; (try with_reducible rfl))
  rotate_left
  · simp only [Act.put, List.setIfInBounds_toArray, List.set_cons_zero, List.set_cons_succ]
    rfl
  refine loud1_ (i := 7) (some 11) #[true, true, true, true, true, true, true, true] rfl rfl (by kernel_rfl) (fun K hK => ?_)
  go_simp
  (go_at_call 183; refine HC0.out.mono ?_; rintro e w1 ⟨rfl, hcw, hbw⟩; have HW1 := Lib.hid hcw; have HB1 := Lib.hid (HB0.out.drew.trans hbw); have hnx := HB1.out; clear hcw hbw)
  refine hK.out _ _ (by exact hnx) (fun hHeld' => ?_)
  clear hK K hHeld
  have hHeld := hHeld'
  clear hHeld'
  try simp only [Act.put, List.setIfInBounds_toArray, List.set_cons_zero, List.set_cons_succ]
  refine wpAnyH_done (by kernel_rfl) ?_ _
  clear hHeld hnx HC0 HW0
  go_upto_region 1 with fail
  have HC1 := Lib.hid (cw_wide 8 seq pb (po + 1) (HW1.out.below (Below.refl _ w1).drew) (by decide) r1 ((HB1.out.drew.cell (p := ⟨pb, po + 1, none⟩) hpb).trans H1.out) (by (try simp only [List.length_append, wB_len]); omega) (Nat.le_trans hbs HB1.out.size))
  unfold CwTo at HC1
  refine wp_region_held_drew (S := (fun w' => Below base w w')) (by kernel_rfl) (by exact HB1.out.drew) (fun hHeld => ?_)
  refine take1_ (i := 0) (v := ?_) (a' := ?_) (some 12) #[true, false, false, false, false, false, false, false] rfl rfl (by kernel_rfl) (fun _ _ _ h => h) (Or.inl ⟨by rfl, ?_⟩) hHeld ?_ ?_
  rotate_left
  · (intro w hSw; (try dsimp only at hSw); go_simp; (try with_reducible rfl))
  rotate_left
  · simp only [Act.put, List.setIfInBounds_toArray, List.set_cons_zero, List.set_cons_succ]
    rfl
  refine take1_ (i := 1) (v := ?_) (a' := ?_) (some 13) #[true, true, false, false, false, false, false, false] rfl rfl (by kernel_rfl) (fun _ _ _ h => h) (Or.inl ⟨by rfl, ?_⟩) hHeld ?_ ?_
  rotate_left
  · (intro w hSw; (try dsimp only at hSw); go_simp; (try with_reducible rfl))
  rotate_left
  · simp only [Act.put, List.setIfInBounds_toArray, List.set_cons_zero, List.set_cons_succ]
    rfl
  refine take1_ (i := 2) (v := ?_) (a' := ?_) (some 14) #[true, true, true, false, false, false, false, false] rfl rfl (by kernel_rfl) (fun _ _ _ h => h) (Or.inl ⟨by rfl, ?_⟩) hHeld ?_ ?_
  rotate_left
  · (intro w hSw; (try dsimp only at hSw); go_simp; (try with_reducible rfl))
  rotate_left
  · simp only [Act.put, List.setIfInBounds_toArray, List.set_cons_zero, List.set_cons_succ]
    rfl
  refine take1_ (i := 3) (v := ?_) (a' := ?_) (some 15) #[true, true, true, true, false, false, false, false] rfl rfl (by kernel_rfl) (fun _ _ _ h => h) (Or.inl ⟨by rfl, ?_⟩) hHeld ?_ ?_
  rotate_left
  · (intro w hSw; (try dsimp only at hSw); go_simp; (try with_reducible rfl))
  rotate_left
  · simp only [Act.put, List.setIfInBounds_toArray, List.set_cons_zero, List.set_cons_succ]
    rfl
  refine take1_ (i := 4) (v := ?_) (a' := ?_) (some 16) #[true, true, true, true, true, false, false, false] rfl rfl (by kernel_rfl) (fun _ _ _ h => h) (Or.inl ⟨by rfl, ?_⟩) hHeld ?_ ?_
  rotate_left
  · (intro w hSw; (try dsimp only at hSw); go_simp; (try with_reducible rfl))
  rotate_left
  · simp only [Act.put, List.setIfInBounds_toArray, List.set_cons_zero, List.set_cons_succ]
    rfl
  refine take1_ (i := 5) (v := ?_) (a' := ?_) (some 17) #[true, true, true, true, true, true, false, false] rfl rfl (by kernel_rfl) (fun _ _ _ h => h) (Or.inl ⟨by rfl, ?_⟩) hHeld ?_ ?_
  rotate_left
  · (intro w hSw; (try dsimp only at hSw); go_simp; (try with_reducible rfl))
  rotate_left
  · simp only [Act.put, List.setIfInBounds_toArray, List.set_cons_zero, List.set_cons_succ]
    rfl
  refine take1_ (i := 6) (v := ?_) (a' := ?_) (some 18) #[true, true, true, true, true, true, true, false] rfl rfl (by kernel_rfl) (fun _ _ _ h => h) (Or.inl ⟨by rfl, ?_⟩) hHeld ?_ ?_
  rotate_left
  · (intro w hSw; (try dsimp only at hSw); go_simp; (try with_reducible rfl))
  rotate_left
  · simp only [Act.put, List.setIfInBounds_toArray, List.set_cons_zero, List.set_cons_succ]
    rfl
  refine loud1_ (i := 7) (some 19) #[true, true, true, true, true, true, true, true] rfl rfl (by kernel_rfl) (fun K hK => ?_)
  go_simp
  (go_at_call 183; refine HC1.out.mono ?_; rintro e w2 ⟨rfl, hcw, hbw⟩; have HW2 := Lib.hid hcw; have HB2 := Lib.hid (HB1.out.drew.trans hbw); have hnx := HB2.out; clear hcw hbw)
  refine hK.out _ _ (by exact hnx) (fun hHeld' => ?_)
  clear hK K hHeld
  have hHeld := hHeld'
  clear hHeld'
  try simp only [Act.put, List.setIfInBounds_toArray, List.set_cons_zero, List.set_cons_succ]
  refine wpAnyH_done (by kernel_rfl) ?_ _
  clear hHeld hnx HC1 HW1
  go_upto_region 2 with fail
  have HC2 := Lib.hid (cw_int 2 seg pb (po + 2) (HW2.out.below (Below.refl _ w2).drew) (by decide) r2 ((HB2.out.drew.cell (p := ⟨pb, po + 2, none⟩) hpb).trans H2.out) (by (try simp only [List.length_append, wB_len]); omega) (Nat.le_trans hbs HB2.out.size))
  unfold CwTo at HC2
  refine wp_region_held_drew (S := (fun w' => Below base w w')) (by kernel_rfl) (by exact HB2.out.drew) (fun hHeld => ?_)
  refine take1_ (i := 0) (v := ?_) (a' := ?_) (some 20) #[true, false, false, false, false, false, false, false] rfl rfl (by kernel_rfl) (fun _ _ _ h => h) (Or.inl ⟨by rfl, ?_⟩) hHeld ?_ ?_
  rotate_left
  · (intro w hSw; (try dsimp only at hSw); go_simp; (try with_reducible rfl))
  rotate_left
  · simp only [Act.put, List.setIfInBounds_toArray, List.set_cons_zero, List.set_cons_succ]
    rfl
  refine take1_ (i := 1) (v := ?_) (a' := ?_) (some 21) #[true, true, false, false, false, false, false, false] rfl rfl (by kernel_rfl) (fun _ _ _ h => h) (Or.inl ⟨by rfl, ?_⟩) hHeld ?_ ?_
  rotate_left
  · (intro w hSw; (try dsimp only at hSw); go_simp; (try with_reducible rfl))
  rotate_left
  · simp only [Act.put, List.setIfInBounds_toArray, List.set_cons_zero, List.set_cons_succ]
    rfl
  refine take1_ (i := 2) (v := ?_) (a' := ?_) (some 22) #[true, true, true, false, false, false, false, false] rfl rfl (by kernel_rfl) (fun _ _ _ h => h) (Or.inl ⟨by rfl, ?_⟩) hHeld ?_ ?_
  rotate_left
  · (intro w hSw; (try dsimp only at hSw); go_simp; (try with_reducible rfl))
  rotate_left
  · simp only [Act.put, List.setIfInBounds_toArray, List.set_cons_zero, List.set_cons_succ]
    rfl
  refine take1_ (i := 3) (v := ?_) (a' := ?_) (some 23) #[true, true, true, true, false, false, false, false] rfl rfl (by kernel_rfl) (fun _ _ _ h => h) (Or.inl ⟨by rfl, ?_⟩) hHeld ?_ ?_
  rotate_left
  · (intro w hSw; (try dsimp only at hSw); go_simp; (try with_reducible rfl))
  rotate_left
  · simp only [Act.put, List.setIfInBounds_toArray, List.set_cons_zero, List.set_cons_succ]
    rfl
  refine take1_ (i := 4) (v := ?_) (a' := ?_) (some 24) #[true, true, true, true, true, false, false, false] rfl rfl (by kernel_rfl) (fun _ _ _ h => h) (Or.inl ⟨by rfl, ?_⟩) hHeld ?_ ?_
  rotate_left
  · (intro w hSw; (try dsimp only at hSw); go_simp; (try with_reducible rfl))
  rotate_left
  · simp only [Act.put, List.setIfInBounds_toArray, List.set_cons_zero, List.set_cons_succ]
    rfl
  refine take1_ (i := 5) (v := ?_) (a' := ?_) (some 25) #[true, true, true, true, true, true, false, false] rfl rfl (by kernel_rfl) (fun _ _ _ h => h) (Or.inl ⟨by rfl, ?_⟩) hHeld ?_ ?_
  rotate_left
  · (intro w hSw; (try dsimp only at hSw); go_simp; (try with_reducible rfl))
  rotate_left
  · simp only [Act.put, List.setIfInBounds_toArray, List.set_cons_zero, List.set_cons_succ]
    rfl
  refine take1_ (i := 6) (v := ?_) (a' := ?_) (some 26) #[true, true, true, true, true, true, true, false] rfl rfl (by kernel_rfl) (fun _ _ _ h => h) (Or.inl ⟨by rfl, ?_⟩) hHeld ?_ ?_
  rotate_left
  · (intro w hSw; (try dsimp only at hSw); go_simp; (try with_reducible rfl))
  rotate_left
  · simp only [Act.put, List.setIfInBounds_toArray, List.set_cons_zero, List.set_cons_succ]
    rfl
  refine loud1_ (i := 7) (some 27) #[true, true, true, true, true, true, true, true] rfl rfl (by kernel_rfl) (fun K hK => ?_)
  go_simp
  (go_at_call 181; refine HC2.out.mono ?_; rintro e w3 ⟨rfl, hcw, hbw⟩; have HW3 := Lib.hid hcw; have HB3 := Lib.hid (HB2.out.drew.trans hbw); have hnx := HB3.out; clear hcw hbw)
  refine hK.out _ _ (by exact hnx) (fun hHeld' => ?_)
  clear hK K hHeld
  have hHeld := hHeld'
  clear hHeld'
  try simp only [Act.put, List.setIfInBounds_toArray, List.set_cons_zero, List.set_cons_succ]
  refine wpAnyH_done (by kernel_rfl) ?_ _
  clear hHeld hnx HC2 HW2
  go_upto_region 3 with fail
  have HC3 := Lib.hid (cw_int 2 grp pb (po + 3) (HW3.out.below (Below.refl _ w3).drew) (by decide) r3 ((HB3.out.drew.cell (p := ⟨pb, po + 3, none⟩) hpb).trans H3.out) (by (try simp only [List.length_append, wB_len]); omega) (Nat.le_trans hbs HB3.out.size))
  unfold CwTo at HC3
  refine wp_region_held_drew (S := (fun w' => Below base w w')) (by kernel_rfl) (by exact HB3.out.drew) (fun hHeld => ?_)
  refine take1_ (i := 0) (v := ?_) (a' := ?_) (some 28) #[true, false, false, false, false, false, false, false] rfl rfl (by kernel_rfl) (fun _ _ _ h => h) (Or.inl ⟨by rfl, ?_⟩) hHeld ?_ ?_
  rotate_left
  · (intro w hSw; (try dsimp only at hSw); go_simp; (try with_reducible rfl))
  rotate_left
  · simp only [Act.put, List.setIfInBounds_toArray, List.set_cons_zero, List.set_cons_succ]
    rfl
  refine take1_ (i := 1) (v := ?_) (a' := ?_) (some 29) #[true, true, false, false, false, false, false, false] rfl rfl (by kernel_rfl) (fun _ _ _ h => h) (Or.inl ⟨by rfl, ?_⟩) hHeld ?_ ?_
  rotate_left
  · (intro w hSw; (try dsimp only at hSw); go_simp; (try with_reducible rfl))
  rotate_left
  · simp only [Act.put, List.setIfInBounds_toArray, List.set_cons_zero, List.set_cons_succ]
    rfl
  refine take1_ (i := 2) (v := ?_) (a' := ?_) (some 30) #[true, true, true, false, false, false, false, false] rfl rfl (by kernel_rfl) (fun _ _ _ h => h) (Or.inl ⟨by rfl, ?_⟩) hHeld ?_ ?_
  rotate_left
  · (intro w hSw; (try dsimp only at hSw); go_simp; (try with_reducible rfl))
  rotate_left
  · simp only [Act.put, List.setIfInBounds_toArray, List.set_cons_zero, List.set_cons_succ]
    rfl
  refine take1_ (i := 3) (v := ?_) (a' := ?_) (some 31) #[true, true, true, true, false, false, false, false] rfl rfl (by kernel_rfl) (fun _ _ _ h => h) (Or.inl ⟨by rfl, ?_⟩) hHeld ?_ ?_
  rotate_left
  · (intro w hSw; (try dsimp only at hSw); go_simp; (try with_reducible rfl))
  rotate_left
  · simp only [Act.put, List.setIfInBounds_toArray, List.set_cons_zero, List.set_cons_succ]
    rfl
  refine take1_ (i := 4) (v := ?_) (a' := ?_) (some 32) #[true, true, true, true, true, false, false, false] rfl rfl (by kernel_rfl) (fun _ _ _ h => h) (Or.inl ⟨by rfl, ?_⟩) hHeld ?_ ?_
  rotate_left
  · (intro w hSw; (try dsimp only at hSw); go_simp; (try with_reducible rfl))
  rotate_left
  · simp only [Act.put, List.setIfInBounds_toArray, List.set_cons_zero, List.set_cons_succ]
    rfl
  refine take1_ (i := 5) (v := ?_) (a' := ?_) (some 33) #[true, true, true, true, true, true, false, false] rfl rfl (by kernel_rfl) (fun _ _ _ h => h) (Or.inl ⟨by rfl, ?_⟩) hHeld ?_ ?_
  rotate_left
  · (intro w hSw; (try dsimp only at hSw); go_simp; (try with_reducible rfl))
  rotate_left
  · simp only [Act.put, List.setIfInBounds_toArray, List.set_cons_zero, List.set_cons_succ]
    rfl
  refine take1_ (i := 6) (v := ?_) (a' := ?_) (some 34) #[true, true, true, true, true, true, true, false] rfl rfl (by kernel_rfl) (fun _ _ _ h => h) (Or.inl ⟨by rfl, ?_⟩) hHeld ?_ ?_
  rotate_left
  · (intro w hSw; (try dsimp only at hSw); go_simp; (try with_reducible rfl))
  rotate_left
  · simp only [Act.put, List.setIfInBounds_toArray, List.set_cons_zero, List.set_cons_succ]
    rfl
  refine loud1_ (i := 7) (some 35) #[true, true, true, true, true, true, true, true] rfl rfl (by kernel_rfl) (fun K hK => ?_)
  go_simp
  (go_at_call 181; refine HC3.out.mono ?_; rintro e w4 ⟨rfl, hcw, hbw⟩; have HW4 := Lib.hid hcw; have HB4 := Lib.hid (HB3.out.drew.trans hbw); have hnx := HB4.out; clear hcw hbw)
  refine hK.out _ _ (by exact hnx) (fun hHeld' => ?_)
  clear hK K hHeld
  have hHeld := hHeld'
  clear hHeld'
  try simp only [Act.put, List.setIfInBounds_toArray, List.set_cons_zero, List.set_cons_succ]
  refine wpAnyH_done (by kernel_rfl) ?_ _
  clear hHeld hnx HC3 HW3
  go_upto_region 4 with fail
  have HC4 := Lib.hid (cw_int 2 next pb (po + 4) (HW4.out.below (Below.refl _ w4).drew) (by decide) r4 ((HB4.out.drew.cell (p := ⟨pb, po + 4, none⟩) hpb).trans H4.out) (by (try simp only [List.length_append, wB_len]); omega) (Nat.le_trans hbs HB4.out.size))
  unfold CwTo at HC4
  refine wp_region_held_drew (S := (fun w' => Below base w w')) (by kernel_rfl) (by exact HB4.out.drew) (fun hHeld => ?_)
  refine take1_ (i := 0) (v := ?_) (a' := ?_) (some 36) #[true, false, false, false, false, false, false, false] rfl rfl (by kernel_rfl) (fun _ _ _ h => h) (Or.inl ⟨by rfl, ?_⟩) hHeld ?_ ?_
  rotate_left
  · (intro w hSw; (try dsimp only at hSw); go_simp; (try with_reducible rfl))
  rotate_left
  · simp only [Act.put, List.setIfInBounds_toArray, List.set_cons_zero, List.set_cons_succ]
    rfl
  refine take1_ (i := 1) (v := ?_) (a' := ?_) (some 37) #[true, true, false, false, false, false, false, false] rfl rfl (by kernel_rfl) (fun _ _ _ h => h) (Or.inl ⟨by rfl, ?_⟩) hHeld ?_ ?_
  rotate_left
  · (intro w hSw; (try dsimp only at hSw); go_simp; (try with_reducible rfl))
  rotate_left
  · simp only [Act.put, List.setIfInBounds_toArray, List.set_cons_zero, List.set_cons_succ]
    rfl
  refine take1_ (i := 2) (v := ?_) (a' := ?_) (some 38) #[true, true, true, false, false, false, false, false] rfl rfl (by kernel_rfl) (fun _ _ _ h => h) (Or.inl ⟨by rfl, ?_⟩) hHeld ?_ ?_
  rotate_left
  · (intro w hSw; (try dsimp only at hSw); go_simp; (try with_reducible rfl))
  rotate_left
  · simp only [Act.put, List.setIfInBounds_toArray, List.set_cons_zero, List.set_cons_succ]
    rfl
  refine take1_ (i := 3) (v := ?_) (a' := ?_) (some 39) #[true, true, true, true, false, false, false, false] rfl rfl (by kernel_rfl) (fun _ _ _ h => h) (Or.inl ⟨by rfl, ?_⟩) hHeld ?_ ?_
  rotate_left
  · (intro w hSw; (try dsimp only at hSw); go_simp; (try with_reducible rfl))
  rotate_left
  · simp only [Act.put, List.setIfInBounds_toArray, List.set_cons_zero, List.set_cons_succ]
    rfl
  refine take1_ (i := 4) (v := ?_) (a' := ?_) (some 40) #[true, true, true, true, true, false, false, false] rfl rfl (by kernel_rfl) (fun _ _ _ h => h) (Or.inl ⟨by rfl, ?_⟩) hHeld ?_ ?_
  rotate_left
  · (intro w hSw; (try dsimp only at hSw); go_simp; (try with_reducible rfl))
  rotate_left
  · simp only [Act.put, List.setIfInBounds_toArray, List.set_cons_zero, List.set_cons_succ]
    rfl
  refine take1_ (i := 5) (v := ?_) (a' := ?_) (some 41) #[true, true, true, true, true, true, false, false] rfl rfl (by kernel_rfl) (fun _ _ _ h => h) (Or.inl ⟨by rfl, ?_⟩) hHeld ?_ ?_
  rotate_left
  · (intro w hSw; (try dsimp only at hSw); go_simp; (try with_reducible rfl))
  rotate_left
  · simp only [Act.put, List.setIfInBounds_toArray, List.set_cons_zero, List.set_cons_succ]
    rfl
  refine take1_ (i := 6) (v := ?_) (a' := ?_) (some 42) #[true, true, true, true, true, true, true, false] rfl rfl (by kernel_rfl) (fun _ _ _ h => h) (Or.inl ⟨by rfl, ?_⟩) hHeld ?_ ?_
  rotate_left
  · (intro w hSw; (try dsimp only at hSw); go_simp; (try with_reducible rfl))
  rotate_left
  · simp only [Act.put, List.setIfInBounds_toArray, List.set_cons_zero, List.set_cons_succ]
    rfl
  refine loud1_ (i := 7) (some 43) #[true, true, true, true, true, true, true, true] rfl rfl (by kernel_rfl) (fun K hK => ?_)
  go_simp
  (go_at_call 181; refine HC4.out.mono ?_; rintro e w5 ⟨rfl, hcw, hbw⟩; have HW5 := Lib.hid hcw; have HB5 := Lib.hid (HB4.out.drew.trans hbw); have hnx := HB5.out; clear hcw hbw)
  refine hK.out _ _ (by exact hnx) (fun hHeld' => ?_)
  clear hK K hHeld
  have hHeld := hHeld'
  clear hHeld'
  try simp only [Act.put, List.setIfInBounds_toArray, List.set_cons_zero, List.set_cons_succ]
  refine wpAnyH_done (by kernel_rfl) ?_ _
  clear hHeld hnx HC4 HW4
  go_upto_region 5 with fail
  have HC5 := Lib.hid (cw_word 4 time pb (po + 5) (HW5.out.below (Below.refl _ w5).drew) (by decide) r5 ((HB5.out.drew.cell (p := ⟨pb, po + 5, none⟩) hpb).trans H5.out) (by (try simp only [List.length_append, wB_len]); omega) (Nat.le_trans hbs HB5.out.size))
  unfold CwTo at HC5
  refine wp_region_held_drew (S := (fun w' => Below base w w')) (by kernel_rfl) (by exact HB5.out.drew) (fun hHeld => ?_)
  refine take1_ (i := 0) (v := ?_) (a' := ?_) (some 44) #[true, false, false, false, false, false, false, false] rfl rfl (by kernel_rfl) (fun _ _ _ h => h) (Or.inl ⟨by rfl, ?_⟩) hHeld ?_ ?_
  rotate_left
  · (intro w hSw; (try dsimp only at hSw); go_simp; (try with_reducible rfl))
  rotate_left
  · simp only [Act.put, List.setIfInBounds_toArray, List.set_cons_zero, List.set_cons_succ]
    rfl
  refine take1_ (i := 1) (v := ?_) (a' := ?_) (some 45) #[true, true, false, false, false, false, false, false] rfl rfl (by kernel_rfl) (fun _ _ _ h => h) (Or.inl ⟨by rfl, ?_⟩) hHeld ?_ ?_
  rotate_left
  · (intro w hSw; (try dsimp only at hSw); go_simp; (try with_reducible rfl))
  rotate_left
  · simp only [Act.put, List.setIfInBounds_toArray, List.set_cons_zero, List.set_cons_succ]
    rfl
  refine take1_ (i := 2) (v := ?_) (a' := ?_) (some 46) #[true, true, true, false, false, false, false, false] rfl rfl (by kernel_rfl) (fun _ _ _ h => h) (Or.inl ⟨by rfl, ?_⟩) hHeld ?_ ?_
  rotate_left
  · (intro w hSw; (try dsimp only at hSw); go_simp; (try with_reducible rfl))
  rotate_left
  · simp only [Act.put, List.setIfInBounds_toArray, List.set_cons_zero, List.set_cons_succ]
    rfl
  refine take1_ (i := 3) (v := ?_) (a' := ?_) (some 47) #[true, true, true, true, false, false, false, false] rfl rfl (by kernel_rfl) (fun _ _ _ h => h) (Or.inl ⟨by rfl, ?_⟩) hHeld ?_ ?_
  rotate_left
  · (intro w hSw; (try dsimp only at hSw); go_simp; (try with_reducible rfl))
  rotate_left
  · simp only [Act.put, List.setIfInBounds_toArray, List.set_cons_zero, List.set_cons_succ]
    rfl
  refine take1_ (i := 4) (v := ?_) (a' := ?_) (some 48) #[true, true, true, true, true, false, false, false] rfl rfl (by kernel_rfl) (fun _ _ _ h => h) (Or.inl ⟨by rfl, ?_⟩) hHeld ?_ ?_
  rotate_left
  · (intro w hSw; (try dsimp only at hSw); go_simp; (try with_reducible rfl))
  rotate_left
  · simp only [Act.put, List.setIfInBounds_toArray, List.set_cons_zero, List.set_cons_succ]
    rfl
  refine take1_ (i := 5) (v := ?_) (a' := ?_) (some 49) #[true, true, true, true, true, true, false, false] rfl rfl (by kernel_rfl) (fun _ _ _ h => h) (Or.inl ⟨by rfl, ?_⟩) hHeld ?_ ?_
  rotate_left
  · (intro w hSw; (try dsimp only at hSw); go_simp; (try with_reducible rfl))
  rotate_left
  · simp only [Act.put, List.setIfInBounds_toArray, List.set_cons_zero, List.set_cons_succ]
    rfl
  refine take1_ (i := 6) (v := ?_) (a' := ?_) (some 50) #[true, true, true, true, true, true, true, false] rfl rfl (by kernel_rfl) (fun _ _ _ h => h) (Or.inl ⟨by rfl, ?_⟩) hHeld ?_ ?_
  rotate_left
  · (intro w hSw; (try dsimp only at hSw); go_simp; (try with_reducible rfl))
  rotate_left
  · simp only [Act.put, List.setIfInBounds_toArray, List.set_cons_zero, List.set_cons_succ]
    rfl
  refine loud1_ (i := 7) (some 51) #[true, true, true, true, true, true, true, true] rfl rfl (by kernel_rfl) (fun K hK => ?_)
  go_simp
  (go_at_call 184; refine HC5.out.mono ?_; rintro e w6 ⟨rfl, hcw, hbw⟩; have HW6 := Lib.hid hcw; have HB6 := Lib.hid (HB5.out.drew.trans hbw); have hnx := HB6.out; clear hcw hbw)
  refine hK.out _ _ (by exact hnx) (fun hHeld' => ?_)
  clear hK K hHeld
  have hHeld := hHeld'
  clear hHeld'
  try simp only [Act.put, List.setIfInBounds_toArray, List.set_cons_zero, List.set_cons_succ]
  refine wpAnyH_done (by kernel_rfl) ?_ _
  clear hHeld hnx HC5 HW5
  go_wp2
  go_end0
  have hE : l ++ fB [(8, (serial : Int)), (8, (seq : Int)), (2, seg), (2, grp), (2, next), (4, (time : Int))] = ((((((l ++ wB 8 serial) ++ wB 8 seq) ++ wB 2 seg.toNat) ++ wB 2 grp.toNat) ++ wB 2 next.toNat) ++ wB 4 time) := by simp [fB, List.append_assoc]
  have hF : (bad || fBad [(8, (serial : Int)), (8, (seq : Int)), (2, seg), (2, grp), (2, next), (4, (time : Int))]) = (((((((((bad || !fitB 8 serial) || !fitB 8 seq) || decide (seg < 0)) || !fitB 2 seg.toNat) || decide (grp < 0)) || !fitB 2 grp.toNat) || decide (next < 0)) || !fitB 2 next.toNat) || !fitB 4 time) := by simp [fBad, Bool.or_assoc, nat_neg]
  rw [hE, hF]
  exact ⟨rfl, HW6.out, HB6.out⟩
end
end Go.Proofs.Ytcpfafmkhegckaa
