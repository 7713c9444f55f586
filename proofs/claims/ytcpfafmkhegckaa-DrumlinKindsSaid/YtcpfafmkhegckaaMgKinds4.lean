/-
  Codec: the pass of an inode.
-/
import Derived.Test.YtcpfafmkhegckaaMgKinds3
namespace Go.Proofs.Ytcpfafmkhegckaa
open Go.RowKit
set_option linter.unusedVariables false
set_option linter.unusedSimpArgs false
set_option linter.unnecessarySimpa false
structure Ino where
  num : Nat
  ver : Nat
  kind : Int
  size : Int
  time : Nat
  ds : List Int
  single : Int
  dbl : Int
def I64 (n : Int) : Prop := -9223372036854775808 ≤ n ∧ n ≤ 9223372036854775807
structure Ino.Ok (x : Ino) : Prop where
  num : x.num < 2 ^ 32
  ver : x.ver < 2 ^ 32
  kind : I64 x.kind
  size : I64 x.size
  time : x.time < 2 ^ 32
  len : x.ds.length = 8
  ds : ∀ d ∈ x.ds, I64 d
  single : I64 x.single
  dbl : I64 x.dbl
def inoF (num ver : Nat) (kind size : Int) (time : Nat) (ds : List Int) (single dbl : Int) : List Value :=
  .int .u32 (num : Int) :: .int .u32 (ver : Int) :: .int .i64 kind :: .int .i64 size :: .int .u32 (time : Int) :: (ds.map (Value.int .i64 ·) ++ [.int .i64 single, .int .i64 dbl])
def Ino.cells (x : Ino) : List Value := inoF x.num x.ver x.kind x.size x.time x.ds x.single x.dbl
def inoL5 (x : Ino) : List (Nat × Int) := [(2, (x.num : Int)), (4, (x.ver : Int)), (1, x.kind), (4, x.size), (4, (x.time : Int))]
def fourL (ds : List Int) : List (Nat × Int) := ds.map fun d => (4, d)
def inoL (x : Ino) : List (Nat × Int) := inoL5 x ++ (fourL x.ds ++ [(4, x.single), (4, x.dbl)])
theorem fB_append (a b : List (Nat × Int)) : fB (a ++ b) = fB a ++ fB b := by
  induction a with
  | nil => rfl
  | cons x r ih => rw [List.cons_append, fB, ih, fB, List.append_assoc]
theorem fBad_append (a b : List (Nat × Int)) : fBad (a ++ b) = (fBad a || fBad b) := by
  induction a with
  | nil => rfl
  | cons x r ih => rw [List.cons_append, fBad, ih, fBad]; simp only [Bool.or_assoc]
theorem fB_len (a : List (Nat × Int)) : (fB a).length = (a.map (·.1)).sum := by
  induction a with
  | nil => rfl
  | cons x r ih => rw [fB, List.length_append, wB_len, ih]; rfl
theorem fourL_len (ds : List Int) : (fB (fourL ds)).length = 4 * ds.length := by
  induction ds with
  | nil => rfl
  | cons d r ih => rw [fourL, List.map_cons, fB, List.length_append, wB_len, List.length_cons]; unfold fourL at ih; rw [ih]; omega
theorem fourL_snoc (ds : List Int) (k : Nat) (h : k < ds.length) : fourL (ds.take (k + 1)) = fourL (ds.take k) ++ [(4, ds.getD k 0)] := by
  unfold fourL
  rw [List.take_succ_eq_append_getElem h, List.map_append]
  simp [List.getD_eq_getElem?_getD, h]
theorem inoF_at5 (x : Ino) (h : x.Ok) (k : Nat) (hk : k < 8) : x.cells[5 + k]? = some (.int .i64 (x.ds.getD k 0)) := by
  have hl : k < x.ds.length := by rw [h.len]; exact hk
  unfold Ino.cells inoF
  rw [show 5 + k = k + 1 + 1 + 1 + 1 + 1 from by omega]
  simp only [List.getElem?_cons_succ]
  rw [List.getElem?_append_left (by simpa using hl)]
  simp [List.getD_eq_getElem?_getD, hl]
theorem inoF_at13 (x : Ino) (h : x.Ok) : x.cells[13]? = some (.int .i64 x.single) ∧ x.cells[14]? = some (.int .i64 x.dbl) := by
  have hl := h.len
  unfold Ino.cells inoF
  simp only [List.getElem?_cons_succ]
  constructor
  · rw [List.getElem?_append_right (by simp [hl])]; simp [hl]
  · rw [List.getElem?_append_right (by simp [hl])]; simp [hl]
theorem getD_ok (x : Ino) (h : x.Ok) (k : Nat) (hk : k < 8) : I64 (x.ds.getD k 0) := by
  have hl : k < x.ds.length := by rw [h.len]; exact hk
  rw [List.getD_eq_getElem?_getD, List.getElem?_eq_getElem hl]
  exact h.ds _ (List.getElem_mem hl)
section
variable {w : World} {base g : Nat} {l : List UInt8} {bad : Bool}
set_option maxRecDepth 10000 in
set_option maxHeartbeats 8000000 in
theorem pw_inode (x : Ino) (pb : Nat) (h : CwAt w base g l bad) (hx : x.Ok) (hc : ∀ i v, x.cells[i]? = some v → w.cell? ⟨pb, i, none⟩ = some v) (hl : l.length ≤ 90000) (hbs : base ≤ w.heap.size) (hpb : pb < base) :
    Calls Try.prog 71 #[wV g, .pointer (some ⟨pb, 0, none⟩)] w (CwTo w base g (l ++ fB (inoL x)) (bad || fBad (inoL x))) := by
  have HW0 := Lib.hid h
  have HB0 := Lib.hid (Below.refl base w)
  have HX := Lib.hid hx
  have HCX := Lib.hid hc
  clear h hx hc
  have na_word := fun W => na_w ⟨g, 0, none⟩ W "drumlin/codec.word" (by simp)
  have mt_word := fun W => mw_word ⟨g, 0, none⟩ W
  have na_int := fun W => na_w ⟨g, 0, none⟩ W "drumlin/codec.int" (by simp)
  have mt_int := fun W => mw_int ⟨g, 0, none⟩ W
  unfold wV
  go_enter Try.func71, Try.ntmps71
  go_upto_region 0 with fail
  have HC0 := Lib.hid (cw_word 2 x.num pb 0 (HW0.out.below (Below.refl _ w).drew) (by decide) HX.out.num ((HB0.out.drew.cell (p := ⟨pb, 0, none⟩) hpb).trans (HCX.out 0 _ rfl)) (by (try simp only [List.length_append, wB_len]); omega) (Nat.le_trans hbs HB0.out.size))
  unfold CwTo at HC0
  refine wp_region_held_drew (S := (fun w' => Below base w w')) (by kernel_rfl) (by exact HB0.out.drew) (fun hHeld => ?_)
  refine take1_ (i := 0) (v := ?_) (a' := ?_) (some 5) #[true, false, false, false, false, false, false, false] rfl rfl (by kernel_rfl) (fun _ _ _ h => h) (Or.inl ⟨by rfl, ?_⟩) hHeld ?_ ?_
  rotate_left
  · (intro w hSw; (try dsimp only at hSw); go_simp; (try with_reducible rfl))
  rotate_left
  · simp only [Act.put, List.setIfInBounds_toArray, List.set_cons_zero, List.set_cons_succ]
    rfl
  refine take1_ (i := 1) (v := ?_) (a' := ?_) (some 6) #[true, true, false, false, false, false, false, false] rfl rfl (by kernel_rfl) (fun _ _ _ h => h) (Or.inl ⟨by rfl, ?_⟩) hHeld ?_ ?_
  rotate_left
  · (intro w hSw; (try dsimp only at hSw); go_simp; (try with_reducible rfl))
  rotate_left
  · simp only [Act.put, List.setIfInBounds_toArray, List.set_cons_zero, List.set_cons_succ]
    rfl
  refine take1_ (i := 2) (v := ?_) (a' := ?_) (some 7) #[true, true, true, false, false, false, false, false] rfl rfl (by kernel_rfl) (fun _ _ _ h => h) (Or.inl ⟨by rfl, ?_⟩) hHeld ?_ ?_
  rotate_left
  · (intro w hSw; (try dsimp only at hSw); go_simp; (try with_reducible rfl))
  rotate_left
  · simp only [Act.put, List.setIfInBounds_toArray, List.set_cons_zero, List.set_cons_succ]
    rfl
  refine take1_ (i := 3) (v := ?_) (a' := ?_) (some 8) #[true, true, true, true, false, false, false, false] rfl rfl (by kernel_rfl) (fun _ _ _ h => h) (Or.inl ⟨by rfl, ?_⟩) hHeld ?_ ?_
  rotate_left
  · (intro w hSw; (try dsimp only at hSw); go_simp; (try with_reducible rfl))
  rotate_left
  · simp only [Act.put, List.setIfInBounds_toArray, List.set_cons_zero, List.set_cons_succ]
    rfl
  refine take1_ (i := 4) (v := ?_) (a' := ?_) (some 9) #[true, true, true, true, true, false, false, false] rfl rfl (by kernel_rfl) (fun _ _ _ h => h) (Or.inl ⟨by rfl, ?_⟩) hHeld ?_ ?_
  rotate_left
  · (intro w hSw; (try dsimp only at hSw); go_simp; (try with_reducible rfl))
  rotate_left
  · simp only [Act.put, List.setIfInBounds_toArray, List.set_cons_zero, List.set_cons_succ]
    rfl
  refine take1_ (i := 5) (v := ?_) (a' := ?_) (some 10) #[true, true, true, true, true, true, false, false] rfl rfl (by kernel_rfl) (fun _ _ _ h => h) (Or.inl ⟨by rfl, ?_⟩) hHeld ?_ ?_
  rotate_left
  · (intro w hSw; (try dsimp only at hSw); go_simp; (try with_reducible rfl))
  rotate_left
  · simp only [Act.put, List.setIfInBounds_toArray, List.set_cons_zero, List.set_cons_succ]
    rfl
  refine take1_ (i := 6) (v := ?_) (a' := ?_) (some 11) #[true, true, true, true, true, true, true, false] rfl rfl (by kernel_rfl) (fun _ _ _ h => h) (Or.inl ⟨by rfl, ?_⟩) hHeld ?_ ?_
  rotate_left
  · (intro w hSw; (try dsimp only at hSw); go_simp; (try with_reducible rfl))
  rotate_left
  · simp only [Act.put, List.setIfInBounds_toArray, List.set_cons_zero, List.set_cons_succ]
    rfl
  refine loud1_ (i := 7) (some 12) #[true, true, true, true, true, true, true, true] rfl rfl (by kernel_rfl) (fun K hK => ?_)
  go_simp
  (go_at_call 184; refine HC0.out.mono ?_; rintro e w1 ⟨rfl, hcw, hbw⟩; have HW1 := Lib.hid hcw; have HB1 := Lib.hid (HB0.out.drew.trans hbw); have hnx := HB1.out; clear hcw hbw)
  refine hK.out _ _ (by exact hnx) (fun hHeld' => ?_)
  clear hK K hHeld
  have hHeld := hHeld'
  clear hHeld'
  try simp only [Act.put, List.setIfInBounds_toArray, List.set_cons_zero, List.set_cons_succ]
  refine wpAnyH_done (by kernel_rfl) ?_ _
  clear hHeld hnx HC0 HW0
  go_upto_region 1 with fail
  have HC1 := Lib.hid (cw_word 4 x.ver pb 1 (HW1.out.below (Below.refl _ w1).drew) (by decide) HX.out.ver ((HB1.out.drew.cell (p := ⟨pb, 1, none⟩) hpb).trans (HCX.out 1 _ rfl)) (by (try simp only [List.length_append, wB_len]); omega) (Nat.le_trans hbs HB1.out.size))
  unfold CwTo at HC1
  refine wp_region_held_drew (S := (fun w' => Below base w w')) (by kernel_rfl) (by exact HB1.out.drew) (fun hHeld => ?_)
  refine take1_ (i := 0) (v := ?_) (a' := ?_) (some 13) #[true, false, false, false, false, false, false, false] rfl rfl (by kernel_rfl) (fun _ _ _ h => h) (Or.inl ⟨by rfl, ?_⟩) hHeld ?_ ?_
  rotate_left
  · (intro w hSw; (try dsimp only at hSw); go_simp; (try with_reducible rfl))
  rotate_left
  · simp only [Act.put, List.setIfInBounds_toArray, List.set_cons_zero, List.set_cons_succ]
    rfl
  refine take1_ (i := 1) (v := ?_) (a' := ?_) (some 14) #[true, true, false, false, false, false, false, false] rfl rfl (by kernel_rfl) (fun _ _ _ h => h) (Or.inl ⟨by rfl, ?_⟩) hHeld ?_ ?_
  rotate_left
  · (intro w hSw; (try dsimp only at hSw); go_simp; (try with_reducible rfl))
  rotate_left
  · simp only [Act.put, List.setIfInBounds_toArray, List.set_cons_zero, List.set_cons_succ]
    rfl
  refine take1_ (i := 2) (v := ?_) (a' := ?_) (some 15) #[true, true, true, false, false, false, false, false] rfl rfl (by kernel_rfl) (fun _ _ _ h => h) (Or.inl ⟨by rfl, ?_⟩) hHeld ?_ ?_
  rotate_left
  · (intro w hSw; (try dsimp only at hSw); go_simp; (try with_reducible rfl))
  rotate_left
  · simp only [Act.put, List.setIfInBounds_toArray, List.set_cons_zero, List.set_cons_succ]
    rfl
  refine take1_ (i := 3) (v := ?_) (a' := ?_) (some 16) #[true, true, true, true, false, false, false, false] rfl rfl (by kernel_rfl) (fun _ _ _ h => h) (Or.inl ⟨by rfl, ?_⟩) hHeld ?_ ?_
  rotate_left
  · (intro w hSw; (try dsimp only at hSw); go_simp; (try with_reducible rfl))
  rotate_left
  · simp only [Act.put, List.setIfInBounds_toArray, List.set_cons_zero, List.set_cons_succ]
    rfl
  refine take1_ (i := 4) (v := ?_) (a' := ?_) (some 17) #[true, true, true, true, true, false, false, false] rfl rfl (by kernel_rfl) (fun _ _ _ h => h) (Or.inl ⟨by rfl, ?_⟩) hHeld ?_ ?_
  rotate_left
  · (intro w hSw; (try dsimp only at hSw); go_simp; (try with_reducible rfl))
  rotate_left
  · simp only [Act.put, List.setIfInBounds_toArray, List.set_cons_zero, List.set_cons_succ]
    rfl
  refine take1_ (i := 5) (v := ?_) (a' := ?_) (some 18) #[true, true, true, true, true, true, false, false] rfl rfl (by kernel_rfl) (fun _ _ _ h => h) (Or.inl ⟨by rfl, ?_⟩) hHeld ?_ ?_
  rotate_left
  · (intro w hSw; (try dsimp only at hSw); go_simp; (try with_reducible rfl))
  rotate_left
  · simp only [Act.put, List.setIfInBounds_toArray, List.set_cons_zero, List.set_cons_succ]
    rfl
  refine take1_ (i := 6) (v := ?_) (a' := ?_) (some 19) #[true, true, true, true, true, true, true, false] rfl rfl (by kernel_rfl) (fun _ _ _ h => h) (Or.inl ⟨by rfl, ?_⟩) hHeld ?_ ?_
  rotate_left
  · (intro w hSw; (try dsimp only at hSw); go_simp; (try with_reducible rfl))
  rotate_left
  · simp only [Act.put, List.setIfInBounds_toArray, List.set_cons_zero, List.set_cons_succ]
    rfl
  refine loud1_ (i := 7) (some 20) #[true, true, true, true, true, true, true, true] rfl rfl (by kernel_rfl) (fun K hK => ?_)
  go_simp
  (go_at_call 184; refine HC1.out.mono ?_; rintro e w2 ⟨rfl, hcw, hbw⟩; have HW2 := Lib.hid hcw; have HB2 := Lib.hid (HB1.out.drew.trans hbw); have hnx := HB2.out; clear hcw hbw)
  refine hK.out _ _ (by exact hnx) (fun hHeld' => ?_)
  clear hK K hHeld
  have hHeld := hHeld'
  clear hHeld'
  try simp only [Act.put, List.setIfInBounds_toArray, List.set_cons_zero, List.set_cons_succ]
  refine wpAnyH_done (by kernel_rfl) ?_ _
  clear hHeld hnx HC1 HW1
  go_upto_region 2 with fail
  have HC2 := Lib.hid (cw_int 1 x.kind pb 2 (HW2.out.below (Below.refl _ w2).drew) (by decide) HX.out.kind ((HB2.out.drew.cell (p := ⟨pb, 2, none⟩) hpb).trans (HCX.out 2 _ rfl)) (by (try simp only [List.length_append, wB_len]); omega) (Nat.le_trans hbs HB2.out.size))
  unfold CwTo at HC2
  refine wp_region_held_drew (S := (fun w' => Below base w w')) (by kernel_rfl) (by exact HB2.out.drew) (fun hHeld => ?_)
  refine take1_ (i := 0) (v := ?_) (a' := ?_) (some 21) #[true, false, false, false, false, false, false, false] rfl rfl (by kernel_rfl) (fun _ _ _ h => h) (Or.inl ⟨by rfl, ?_⟩) hHeld ?_ ?_
  rotate_left
  · (intro w hSw; (try dsimp only at hSw); go_simp; (try with_reducible rfl))
  rotate_left
  · simp only [Act.put, List.setIfInBounds_toArray, List.set_cons_zero, List.set_cons_succ]
    rfl
  refine take1_ (i := 1) (v := ?_) (a' := ?_) (some 22) #[true, true, false, false, false, false, false, false] rfl rfl (by kernel_rfl) (fun _ _ _ h => h) (Or.inl ⟨by rfl, ?_⟩) hHeld ?_ ?_
  rotate_left
  · (intro w hSw; (try dsimp only at hSw); go_simp; (try with_reducible rfl))
  rotate_left
  · simp only [Act.put, List.setIfInBounds_toArray, List.set_cons_zero, List.set_cons_succ]
    rfl
  refine take1_ (i := 2) (v := ?_) (a' := ?_) (some 23) #[true, true, true, false, false, false, false, false] rfl rfl (by kernel_rfl) (fun _ _ _ h => h) (Or.inl ⟨by rfl, ?_⟩) hHeld ?_ ?_
  rotate_left
  · (intro w hSw; (try dsimp only at hSw); go_simp; (try with_reducible rfl))
  rotate_left
  · simp only [Act.put, List.setIfInBounds_toArray, List.set_cons_zero, List.set_cons_succ]
    rfl
  refine take1_ (i := 3) (v := ?_) (a' := ?_) (some 24) #[true, true, true, true, false, false, false, false] rfl rfl (by kernel_rfl) (fun _ _ _ h => h) (Or.inl ⟨by rfl, ?_⟩) hHeld ?_ ?_
  rotate_left
  · (intro w hSw; (try dsimp only at hSw); go_simp; (try with_reducible rfl))
  rotate_left
  · simp only [Act.put, List.setIfInBounds_toArray, List.set_cons_zero, List.set_cons_succ]
    rfl
  refine take1_ (i := 4) (v := ?_) (a' := ?_) (some 25) #[true, true, true, true, true, false, false, false] rfl rfl (by kernel_rfl) (fun _ _ _ h => h) (Or.inl ⟨by rfl, ?_⟩) hHeld ?_ ?_
  rotate_left
  · (intro w hSw; (try dsimp only at hSw); go_simp; (try with_reducible rfl))
  rotate_left
  · simp only [Act.put, List.setIfInBounds_toArray, List.set_cons_zero, List.set_cons_succ]
    rfl
  refine take1_ (i := 5) (v := ?_) (a' := ?_) (some 26) #[true, true, true, true, true, true, false, false] rfl rfl (by kernel_rfl) (fun _ _ _ h => h) (Or.inl ⟨by rfl, ?_⟩) hHeld ?_ ?_
  rotate_left
  · (intro w hSw; (try dsimp only at hSw); go_simp; (try with_reducible rfl))
  rotate_left
  · simp only [Act.put, List.setIfInBounds_toArray, List.set_cons_zero, List.set_cons_succ]
    rfl
  refine take1_ (i := 6) (v := ?_) (a' := ?_) (some 27) #[true, true, true, true, true, true, true, false] rfl rfl (by kernel_rfl) (fun _ _ _ h => h) (Or.inl ⟨by rfl, ?_⟩) hHeld ?_ ?_
  rotate_left
  · (intro w hSw; (try dsimp only at hSw); go_simp; (try with_reducible rfl))
  rotate_left
  · simp only [Act.put, List.setIfInBounds_toArray, List.set_cons_zero, List.set_cons_succ]
    rfl
  refine loud1_ (i := 7) (some 28) #[true, true, true, true, true, true, true, true] rfl rfl (by kernel_rfl) (fun K hK => ?_)
  go_simp
  (go_at_call 181; refine HC2.out.mono ?_; rintro e w3 ⟨rfl, hcw, hbw⟩; have HW3 := Lib.hid hcw; have HB3 := Lib.hid (HB2.out.drew.trans hbw); have hnx := HB3.out; clear hcw hbw)
  refine hK.out _ _ (by exact hnx) (fun hHeld' => ?_)
  clear hK K hHeld
  have hHeld := hHeld'
  clear hHeld'
  try simp only [Act.put, List.setIfInBounds_toArray, List.set_cons_zero, List.set_cons_succ]
  refine wpAnyH_done (by kernel_rfl) ?_ _
  clear hHeld hnx HC2 HW2
  go_upto_region 3 with fail
  have HC3 := Lib.hid (cw_int 4 x.size pb 3 (HW3.out.below (Below.refl _ w3).drew) (by decide) HX.out.size ((HB3.out.drew.cell (p := ⟨pb, 3, none⟩) hpb).trans (HCX.out 3 _ rfl)) (by (try simp only [List.length_append, wB_len]); omega) (Nat.le_trans hbs HB3.out.size))
  unfold CwTo at HC3
  refine wp_region_held_drew (S := (fun w' => Below base w w')) (by kernel_rfl) (by exact HB3.out.drew) (fun hHeld => ?_)
  refine take1_ (i := 0) (v := ?_) (a' := ?_) (some 29) #[true, false, false, false, false, false, false, false] rfl rfl (by kernel_rfl) (fun _ _ _ h => h) (Or.inl ⟨by rfl, ?_⟩) hHeld ?_ ?_
  rotate_left
  · (intro w hSw; (try dsimp only at hSw); go_simp; (try with_reducible rfl))
  rotate_left
  · simp only [Act.put, List.setIfInBounds_toArray, List.set_cons_zero, List.set_cons_succ]
    rfl
  refine take1_ (i := 1) (v := ?_) (a' := ?_) (some 30) #[true, true, false, false, false, false, false, false] rfl rfl (by kernel_rfl) (fun _ _ _ h => h) (Or.inl ⟨by rfl, ?_⟩) hHeld ?_ ?_
  rotate_left
  · (intro w hSw; (try dsimp only at hSw); go_simp; (try with_reducible rfl))
  rotate_left
  · simp only [Act.put, List.setIfInBounds_toArray, List.set_cons_zero, List.set_cons_succ]
    rfl
  refine take1_ (i := 2) (v := ?_) (a' := ?_) (some 31) #[true, true, true, false, false, false, false, false] rfl rfl (by kernel_rfl) (fun _ _ _ h => h) (Or.inl ⟨by rfl, ?_⟩) hHeld ?_ ?_
  rotate_left
  · (intro w hSw; (try dsimp only at hSw); go_simp; (try with_reducible rfl))
  rotate_left
  · simp only [Act.put, List.setIfInBounds_toArray, List.set_cons_zero, List.set_cons_succ]
    rfl
  refine take1_ (i := 3) (v := ?_) (a' := ?_) (some 32) #[true, true, true, true, false, false, false, false] rfl rfl (by kernel_rfl) (fun _ _ _ h => h) (Or.inl ⟨by rfl, ?_⟩) hHeld ?_ ?_
  rotate_left
  · (intro w hSw; (try dsimp only at hSw); go_simp; (try with_reducible rfl))
  rotate_left
  · simp only [Act.put, List.setIfInBounds_toArray, List.set_cons_zero, List.set_cons_succ]
    rfl
  refine take1_ (i := 4) (v := ?_) (a' := ?_) (some 33) #[true, true, true, true, true, false, false, false] rfl rfl (by kernel_rfl) (fun _ _ _ h => h) (Or.inl ⟨by rfl, ?_⟩) hHeld ?_ ?_
  rotate_left
  · (intro w hSw; (try dsimp only at hSw); go_simp; (try with_reducible rfl))
  rotate_left
  · simp only [Act.put, List.setIfInBounds_toArray, List.set_cons_zero, List.set_cons_succ]
    rfl
  refine take1_ (i := 5) (v := ?_) (a' := ?_) (some 34) #[true, true, true, true, true, true, false, false] rfl rfl (by kernel_rfl) (fun _ _ _ h => h) (Or.inl ⟨by rfl, ?_⟩) hHeld ?_ ?_
  rotate_left
  · (intro w hSw; (try dsimp only at hSw); go_simp; (try with_reducible rfl))
  rotate_left
  · simp only [Act.put, List.setIfInBounds_toArray, List.set_cons_zero, List.set_cons_succ]
    rfl
  refine take1_ (i := 6) (v := ?_) (a' := ?_) (some 35) #[true, true, true, true, true, true, true, false] rfl rfl (by kernel_rfl) (fun _ _ _ h => h) (Or.inl ⟨by rfl, ?_⟩) hHeld ?_ ?_
  rotate_left
  · (intro w hSw; (try dsimp only at hSw); go_simp; (try with_reducible rfl))
  rotate_left
  · simp only [Act.put, List.setIfInBounds_toArray, List.set_cons_zero, List.set_cons_succ]
    rfl
  refine loud1_ (i := 7) (some 36) #[true, true, true, true, true, true, true, true] rfl rfl (by kernel_rfl) (fun K hK => ?_)
  go_simp
  (go_at_call 181; refine HC3.out.mono ?_; rintro e w4 ⟨rfl, hcw, hbw⟩; have HW4 := Lib.hid hcw; have HB4 := Lib.hid (HB3.out.drew.trans hbw); have hnx := HB4.out; clear hcw hbw)
  refine hK.out _ _ (by exact hnx) (fun hHeld' => ?_)
  clear hK K hHeld
  have hHeld := hHeld'
  clear hHeld'
  try simp only [Act.put, List.setIfInBounds_toArray, List.set_cons_zero, List.set_cons_succ]
  refine wpAnyH_done (by kernel_rfl) ?_ _
  clear hHeld hnx HC3 HW3
  go_upto_region 4 with fail
  have HC4 := Lib.hid (cw_word 4 x.time pb 4 (HW4.out.below (Below.refl _ w4).drew) (by decide) HX.out.time ((HB4.out.drew.cell (p := ⟨pb, 4, none⟩) hpb).trans (HCX.out 4 _ rfl)) (by (try simp only [List.length_append, wB_len]); omega) (Nat.le_trans hbs HB4.out.size))
  unfold CwTo at HC4
  refine wp_region_held_drew (S := (fun w' => Below base w w')) (by kernel_rfl) (by exact HB4.out.drew) (fun hHeld => ?_)
  refine take1_ (i := 0) (v := ?_) (a' := ?_) (some 37) #[true, false, false, false, false, false, false, false] rfl rfl (by kernel_rfl) (fun _ _ _ h => h) (Or.inl ⟨by rfl, ?_⟩) hHeld ?_ ?_
  rotate_left
  · (intro w hSw; (try dsimp only at hSw); go_simp; (try with_reducible rfl))
  rotate_left
  · simp only [Act.put, List.setIfInBounds_toArray, List.set_cons_zero, List.set_cons_succ]
    rfl
  refine take1_ (i := 1) (v := ?_) (a' := ?_) (some 38) #[true, true, false, false, false, false, false, false] rfl rfl (by kernel_rfl) (fun _ _ _ h => h) (Or.inl ⟨by rfl, ?_⟩) hHeld ?_ ?_
  rotate_left
  · (intro w hSw; (try dsimp only at hSw); go_simp; (try with_reducible rfl))
  rotate_left
  · simp only [Act.put, List.setIfInBounds_toArray, List.set_cons_zero, List.set_cons_succ]
    rfl
  refine take1_ (i := 2) (v := ?_) (a' := ?_) (some 39) #[true, true, true, false, false, false, false, false] rfl rfl (by kernel_rfl) (fun _ _ _ h => h) (Or.inl ⟨by rfl, ?_⟩) hHeld ?_ ?_
  rotate_left
  · (intro w hSw; (try dsimp only at hSw); go_simp; (try with_reducible rfl))
  rotate_left
  · simp only [Act.put, List.setIfInBounds_toArray, List.set_cons_zero, List.set_cons_succ]
    rfl
  refine take1_ (i := 3) (v := ?_) (a' := ?_) (some 40) #[true, true, true, true, false, false, false, false] rfl rfl (by kernel_rfl) (fun _ _ _ h => h) (Or.inl ⟨by rfl, ?_⟩) hHeld ?_ ?_
  rotate_left
  · (intro w hSw; (try dsimp only at hSw); go_simp; (try with_reducible rfl))
  rotate_left
  · simp only [Act.put, List.setIfInBounds_toArray, List.set_cons_zero, List.set_cons_succ]
    rfl
  refine take1_ (i := 4) (v := ?_) (a' := ?_) (some 41) #[true, true, true, true, true, false, false, false] rfl rfl (by kernel_rfl) (fun _ _ _ h => h) (Or.inl ⟨by rfl, ?_⟩) hHeld ?_ ?_
  rotate_left
  · (intro w hSw; (try dsimp only at hSw); go_simp; (try with_reducible rfl))
  rotate_left
  · simp only [Act.put, List.setIfInBounds_toArray, List.set_cons_zero, List.set_cons_succ]
    rfl
  refine take1_ (i := 5) (v := ?_) (a' := ?_) (some 42) #[true, true, true, true, true, true, false, false] rfl rfl (by kernel_rfl) (fun _ _ _ h => h) (Or.inl ⟨by rfl, ?_⟩) hHeld ?_ ?_
  rotate_left
  · (intro w hSw; (try dsimp only at hSw); go_simp; (try with_reducible rfl))
  rotate_left
  · simp only [Act.put, List.setIfInBounds_toArray, List.set_cons_zero, List.set_cons_succ]
    rfl
  refine take1_ (i := 6) (v := ?_) (a' := ?_) (some 43) #[true, true, true, true, true, true, true, false] rfl rfl (by kernel_rfl) (fun _ _ _ h => h) (Or.inl ⟨by rfl, ?_⟩) hHeld ?_ ?_
  rotate_left
  · (intro w hSw; (try dsimp only at hSw); go_simp; (try with_reducible rfl))
  rotate_left
  · simp only [Act.put, List.setIfInBounds_toArray, List.set_cons_zero, List.set_cons_succ]
    rfl
  refine loud1_ (i := 7) (some 44) #[true, true, true, true, true, true, true, true] rfl rfl (by kernel_rfl) (fun K hK => ?_)
  go_simp
  (go_at_call 184; refine HC4.out.mono ?_; rintro e w5 ⟨rfl, hcw, hbw⟩; have HW5 := Lib.hid hcw; have HB5 := Lib.hid (HB4.out.drew.trans hbw); have hnx := HB5.out; clear hcw hbw)
  refine hK.out _ _ (by exact hnx) (fun hHeld' => ?_)
  clear hK K hHeld
  have hHeld := hHeld'
  clear hHeld'
  try simp only [Act.put, List.setIfInBounds_toArray, List.set_cons_zero, List.set_cons_succ]
  refine wpAnyH_done (by kernel_rfl) ?_ _
  clear hHeld hnx HC4 HW4
  have hW5 : CwAt w5 base g ((l ++ fB (inoL5 x)) ++ fB (fourL (x.ds.take 0))) ((bad || fBad (inoL5 x)) || fBad (fourL (x.ds.take 0))) := by
    have hE : (l ++ fB (inoL5 x)) ++ fB (fourL (x.ds.take 0)) = (((((l ++ wB 2 x.num) ++ wB 4 x.ver) ++ wB 1 x.kind.toNat) ++ wB 4 x.size.toNat) ++ wB 4 x.time) := by simp [fB, inoL5, fourL, List.append_assoc]
    have hF : ((bad || fBad (inoL5 x)) || fBad (fourL (x.ds.take 0))) = (((((((bad || !fitB 2 x.num) || !fitB 4 x.ver) || decide (x.kind < 0)) || !fitB 1 x.kind.toNat) || decide (x.size < 0)) || !fitB 4 x.size.toNat) || !fitB 4 x.time) := by simp [fBad, inoL5, fourL, Bool.or_assoc, nat_neg]
    rw [hE, hF]
    exact HW5.out
  have HW := Lib.hid hW5
  clear HW5 hW5
  have hl5 : (l ++ fB (inoL5 x)).length ≤ 90100 := by rw [List.length_append, fB_len]; simp [inoL5]; omega
  have hz5 : base ≤ w5.heap.size := Nat.le_trans hbs HB5.out.size
  go_wp2
  go_loopw [45] (fun i wr => ∃ k : Nat, k ≤ 8 ∧ i = .int .i64 (k : Int) ∧ Hid (CwAt wr base g ((l ++ fB (inoL5 x)) ++ fB (fourL (x.ds.take k))) ((bad || fBad (inoL5 x)) || fBad (fourL (x.ds.take k)))) ∧ Hid (Below base w wr)) (fun i _ => (8 - intOf i).toNat)
  case atStart => exact ⟨0, by omega, rfl, HW, HB5⟩
  case round =>
    obtain ⟨k, hk, rfl, HWk, HBk⟩ := hrel
    clear HW HB5 hz5
    have hlk : ((l ++ fB (inoL5 x)) ++ fB (fourL (x.ds.take k))).length ≤ 90200 := by rw [List.length_append, fourL_len, List.length_take]; have := HX.out.len; omega
    have hzk := Nat.le_trans hbs HBk.out.size
    by_cases hlt : k < 8
    · have hkI : (k : Int) < 8 := by omega
      go_upto_region 8 with fail
      have hr := getD_ok x HX.out k hlt
      obtain ⟨d, hd⟩ : ∃ d, x.ds.getD k 0 = d := ⟨_, rfl⟩
      have HD := Lib.hid hd
      rw [hd] at hr
      have HC8 := Lib.hid (cw_int 4 d pb (5 + k) (HWk.out.below (Below.refl _ wr).drew) (by decide) hr ((HBk.out.drew.cell (p := ⟨pb, 5 + k, none⟩) hpb).trans (HCX.out (5 + k) _ (by rw [inoF_at5 x HX.out k hlt, HD.out]))) (by omega) hzk)
      unfold CwTo at HC8
      clear hd hr
      refine wp_region_held_drew (S := (fun w' => Below base w w')) (by kernel_rfl) (by exact HBk.out.drew) (fun hHeld => ?_)
      refine take1_ (i := 0) (v := ?_) (a' := ?_) (some 48) #[true, false, false, false, false, false, false, false, false, false] rfl rfl (by kernel_rfl) (fun _ _ _ h => h) (Or.inl ⟨by rfl, ?_⟩) hHeld ?_ ?_
      rotate_left
      · (intro w hSw; (try dsimp only at hSw); go_simp; (try with_reducible rfl))
      rotate_left
      · simp only [Act.put, List.setIfInBounds_toArray, List.set_cons_zero, List.set_cons_succ]
        rfl
      refine take1_ (i := 1) (v := ?_) (a' := ?_) (some 49) #[true, true, false, false, false, false, false, false, false, false] rfl rfl (by kernel_rfl) (fun _ _ _ h => h) (Or.inl ⟨by rfl, ?_⟩) hHeld ?_ ?_
      rotate_left
      · (intro w hSw; (try dsimp only at hSw); go_simp; (try with_reducible rfl))
      rotate_left
      · simp only [Act.put, List.setIfInBounds_toArray, List.set_cons_zero, List.set_cons_succ]
        rfl
      refine take1_ (i := 2) (v := ?_) (a' := ?_) (some 50) #[true, true, true, false, false, false, false, false, false, false] rfl rfl (by kernel_rfl) (fun _ _ _ h => h) (Or.inl ⟨by rfl, ?_⟩) hHeld ?_ ?_
      rotate_left
      · (intro w hSw; (try dsimp only at hSw); go_simp; (try with_reducible rfl))
      rotate_left
      · simp only [Act.put, List.setIfInBounds_toArray, List.set_cons_zero, List.set_cons_succ]
        rfl
      refine take1_ (i := 3) (v := ?_) (a' := ?_) (some 51) #[true, true, true, true, false, false, false, false, false, false] rfl rfl (by kernel_rfl) (fun _ _ _ h => h) (Or.inl ⟨by rfl, ?_⟩) hHeld ?_ ?_
      rotate_left
      · (intro w hSw; (try dsimp only at hSw); go_simp; (try with_reducible rfl))
      rotate_left
      · simp only [Act.put, List.setIfInBounds_toArray, List.set_cons_zero, List.set_cons_succ]
        rfl
      refine take1_ (i := 4) (v := ?_) (a' := ?_) (some 52) #[true, true, true, true, true, false, false, false, false, false] rfl rfl (by kernel_rfl) (fun _ _ _ h => h) (Or.inl ⟨by rfl, ?_⟩) hHeld ?_ ?_
      rotate_left
      · (intro w hSw; (try dsimp only at hSw); go_simp; (try with_reducible rfl))
      rotate_left
      · simp only [Act.put, List.setIfInBounds_toArray, List.set_cons_zero, List.set_cons_succ]
        rfl
      refine take1_ (i := 5) (v := ?_) (a' := ?_) (some 53) #[true, true, true, true, true, true, false, false, false, false] rfl rfl (by kernel_rfl) (fun _ _ _ h => h) (Or.inl ⟨by rfl, ?_⟩) hHeld ?_ ?_
      rotate_left
      · (intro w hSw; (try dsimp only at hSw); go_simp; (try with_reducible rfl))
      rotate_left
      · simp only [Act.put, List.setIfInBounds_toArray, List.set_cons_zero, List.set_cons_succ]
        rfl
      refine take1_ (i := 6) (v := ?_) (a' := ?_) (some 54) #[true, true, true, true, true, true, true, false, false, false] rfl rfl (by kernel_rfl) (fun _ _ _ h => h) (Or.inl ⟨by rfl, ?_⟩) hHeld ?_ ?_
      rotate_left
      · (intro w hSw; (try dsimp only at hSw); go_simp; (try with_reducible rfl))
      rotate_left
      · simp only [Act.put, List.setIfInBounds_toArray, List.set_cons_zero, List.set_cons_succ]
        rfl
      refine take1_ (i := 7) (v := ?_) (a' := ?_) (some 55) #[true, true, true, true, true, true, true, true, false, false] rfl rfl (by kernel_rfl) (fun _ _ _ h => h) (Or.inl ⟨by rfl, ?_⟩) hHeld ?_ ?_
      rotate_left
      · (intro w hSw; (try dsimp only at hSw); go_simp; (try with_reducible rfl))
      rotate_left
      · simp only [Act.put, List.setIfInBounds_toArray, List.set_cons_zero, List.set_cons_succ]
        rfl
      refine take1_ (i := 8) (v := ?_) (a' := ?_) (some 56) #[true, true, true, true, true, true, true, true, true, false] rfl rfl (by kernel_rfl) (fun _ _ _ h => h) (Or.inl ⟨by rfl, ?_⟩) hHeld ?_ ?_
      rotate_left
      · (intro w hSw; (try dsimp only at hSw); go_simp; (try with_reducible rfl))
      rotate_left
      · simp only [Act.put, List.setIfInBounds_toArray, List.set_cons_zero, List.set_cons_succ]
        rfl
      refine loud1_ (i := 9) (some 57) #[true, true, true, true, true, true, true, true, true, true] rfl rfl (by kernel_rfl) (fun K hK => ?_)
      go_simp
      (go_at_call 181; refine HC8.out.mono ?_; rintro e w9 ⟨rfl, hcw, hbw⟩; have HW9 := Lib.hid hcw; have HB9 := Lib.hid (HBk.out.drew.trans hbw); have hnx := HB9.out; clear hcw hbw)
      refine hK.out _ _ (by exact hnx) (fun hHeld' => ?_)
      clear hK K hHeld
      have hHeld := hHeld'
      clear hHeld'
      try simp only [Act.put, List.setIfInBounds_toArray, List.set_cons_zero, List.set_cons_succ]
      refine wpAnyH_done (by kernel_rfl) ?_ _

      clear hHeld hnx HC8
      have hW9 : CwAt w9 base g ((l ++ fB (inoL5 x)) ++ fB (fourL (x.ds.take (k + 1)))) ((bad || fBad (inoL5 x)) || fBad (fourL (x.ds.take (k + 1)))) := by
        rw [fourL_snoc _ _ (by rw [HX.out.len]; exact hlt), fB_append, fBad_append, HD.out]
        have := HW9.out
        simpa [fB, fBad, List.append_assoc, Bool.or_assoc] using this
      have HW9' := Lib.hid hW9
      clear hW9 HW9
      go_wp2
      go_roundw
      case rel => exact ⟨k + 1, by omega, by go_num, HW9', HB9⟩
      case measure => simp [intOf]; omega
    · obtain rfl : k = 8 := by omega
      have ht : x.ds.take 8 = x.ds := List.take_of_length_le (by rw [HX.out.len]; exact Nat.le_refl _)
      rw [ht] at HWk hlk
      clear ht
      have HB10 := HBk
      have HW10 := HWk
      clear HBk HWk
      go_upto_region 10 with fail
      have HC10 := Lib.hid (cw_int 4 x.single pb 13 (HW10.out.below (Below.refl _ wr).drew) (by decide) HX.out.single ((HB10.out.drew.cell (p := ⟨pb, 13, none⟩) hpb).trans (HCX.out 13 _ (inoF_at13 x HX.out).1)) (by (try rw [List.length_append, wB_len]); omega) (Nat.le_trans hbs HB10.out.size))
      unfold CwTo at HC10
      refine wp_region_held_drew (S := (fun w' => Below base w w')) (by kernel_rfl) (by exact HB10.out.drew) (fun hHeld => ?_)
      refine take1_ (i := 0) (v := ?_) (a' := ?_) (some 59) #[true, false, false, false, false, false, false, false] rfl rfl (by kernel_rfl) (fun _ _ _ h => h) (Or.inl ⟨by rfl, ?_⟩) hHeld ?_ ?_
      rotate_left
      · (intro w hSw; (try dsimp only at hSw); go_simp; (try with_reducible rfl))
      rotate_left
      · simp only [Act.put, List.setIfInBounds_toArray, List.set_cons_zero, List.set_cons_succ]
        rfl
      refine take1_ (i := 1) (v := ?_) (a' := ?_) (some 60) #[true, true, false, false, false, false, false, false] rfl rfl (by kernel_rfl) (fun _ _ _ h => h) (Or.inl ⟨by rfl, ?_⟩) hHeld ?_ ?_
      rotate_left
      · (intro w hSw; (try dsimp only at hSw); go_simp; (try with_reducible rfl))
      rotate_left
      · simp only [Act.put, List.setIfInBounds_toArray, List.set_cons_zero, List.set_cons_succ]
        rfl
      refine take1_ (i := 2) (v := ?_) (a' := ?_) (some 61) #[true, true, true, false, false, false, false, false] rfl rfl (by kernel_rfl) (fun _ _ _ h => h) (Or.inl ⟨by rfl, ?_⟩) hHeld ?_ ?_
      rotate_left
      · (intro w hSw; (try dsimp only at hSw); go_simp; (try with_reducible rfl))
      rotate_left
      · simp only [Act.put, List.setIfInBounds_toArray, List.set_cons_zero, List.set_cons_succ]
        rfl
      refine take1_ (i := 3) (v := ?_) (a' := ?_) (some 62) #[true, true, true, true, false, false, false, false] rfl rfl (by kernel_rfl) (fun _ _ _ h => h) (Or.inl ⟨by rfl, ?_⟩) hHeld ?_ ?_
      rotate_left
      · (intro w hSw; (try dsimp only at hSw); go_simp; (try with_reducible rfl))
      rotate_left
      · simp only [Act.put, List.setIfInBounds_toArray, List.set_cons_zero, List.set_cons_succ]
        rfl
      refine take1_ (i := 4) (v := ?_) (a' := ?_) (some 63) #[true, true, true, true, true, false, false, false] rfl rfl (by kernel_rfl) (fun _ _ _ h => h) (Or.inl ⟨by rfl, ?_⟩) hHeld ?_ ?_
      rotate_left
      · (intro w hSw; (try dsimp only at hSw); go_simp; (try with_reducible rfl))
      rotate_left
      · simp only [Act.put, List.setIfInBounds_toArray, List.set_cons_zero, List.set_cons_succ]
        rfl
      refine take1_ (i := 5) (v := ?_) (a' := ?_) (some 64) #[true, true, true, true, true, true, false, false] rfl rfl (by kernel_rfl) (fun _ _ _ h => h) (Or.inl ⟨by rfl, ?_⟩) hHeld ?_ ?_
      rotate_left
      · (intro w hSw; (try dsimp only at hSw); go_simp; (try with_reducible rfl))
      rotate_left
      · simp only [Act.put, List.setIfInBounds_toArray, List.set_cons_zero, List.set_cons_succ]
        rfl
      refine take1_ (i := 6) (v := ?_) (a' := ?_) (some 65) #[true, true, true, true, true, true, true, false] rfl rfl (by kernel_rfl) (fun _ _ _ h => h) (Or.inl ⟨by rfl, ?_⟩) hHeld ?_ ?_
      rotate_left
      · (intro w hSw; (try dsimp only at hSw); go_simp; (try with_reducible rfl))
      rotate_left
      · simp only [Act.put, List.setIfInBounds_toArray, List.set_cons_zero, List.set_cons_succ]
        rfl
      refine loud1_ (i := 7) (some 66) #[true, true, true, true, true, true, true, true] rfl rfl (by kernel_rfl) (fun K hK => ?_)
      go_simp
      (go_at_call 181; refine HC10.out.mono ?_; rintro e w11 ⟨rfl, hcw, hbw⟩; have HW11 := Lib.hid hcw; have HB11 := Lib.hid (HB10.out.drew.trans hbw); have hnx := HB11.out; clear hcw hbw)
      refine hK.out _ _ (by exact hnx) (fun hHeld' => ?_)
      clear hK K hHeld
      have hHeld := hHeld'
      clear hHeld'
      try simp only [Act.put, List.setIfInBounds_toArray, List.set_cons_zero, List.set_cons_succ]
      refine wpAnyH_done (by kernel_rfl) ?_ _

      clear hHeld hnx HC10 HW10
      go_upto_region 11 with fail
      have HC11 := Lib.hid (cw_int 4 x.dbl pb 14 (HW11.out.below (Below.refl _ w11).drew) (by decide) HX.out.dbl ((HB11.out.drew.cell (p := ⟨pb, 14, none⟩) hpb).trans (HCX.out 14 _ (inoF_at13 x HX.out).2)) (by (try rw [List.length_append, wB_len]); omega) (Nat.le_trans hbs HB11.out.size))
      unfold CwTo at HC11
      refine wp_region_held_drew (S := (fun w' => Below base w w')) (by kernel_rfl) (by exact HB11.out.drew) (fun hHeld => ?_)
      refine take1_ (i := 0) (v := ?_) (a' := ?_) (some 67) #[true, false, false, false, false, false, false, false] rfl rfl (by kernel_rfl) (fun _ _ _ h => h) (Or.inl ⟨by rfl, ?_⟩) hHeld ?_ ?_
      rotate_left
      · (intro w hSw; (try dsimp only at hSw); go_simp; (try with_reducible rfl))
      rotate_left
      · simp only [Act.put, List.setIfInBounds_toArray, List.set_cons_zero, List.set_cons_succ]
        rfl
      refine take1_ (i := 1) (v := ?_) (a' := ?_) (some 68) #[true, true, false, false, false, false, false, false] rfl rfl (by kernel_rfl) (fun _ _ _ h => h) (Or.inl ⟨by rfl, ?_⟩) hHeld ?_ ?_
      rotate_left
      · (intro w hSw; (try dsimp only at hSw); go_simp; (try with_reducible rfl))
      rotate_left
      · simp only [Act.put, List.setIfInBounds_toArray, List.set_cons_zero, List.set_cons_succ]
        rfl
      refine take1_ (i := 2) (v := ?_) (a' := ?_) (some 69) #[true, true, true, false, false, false, false, false] rfl rfl (by kernel_rfl) (fun _ _ _ h => h) (Or.inl ⟨by rfl, ?_⟩) hHeld ?_ ?_
      rotate_left
      · (intro w hSw; (try dsimp only at hSw); go_simp; (try with_reducible rfl))
      rotate_left
      · simp only [Act.put, List.setIfInBounds_toArray, List.set_cons_zero, List.set_cons_succ]
        rfl
      refine take1_ (i := 3) (v := ?_) (a' := ?_) (some 70) #[true, true, true, true, false, false, false, false] rfl rfl (by kernel_rfl) (fun _ _ _ h => h) (Or.inl ⟨by rfl, ?_⟩) hHeld ?_ ?_
      rotate_left
      · (intro w hSw; (try dsimp only at hSw); go_simp; (try with_reducible rfl))
      rotate_left
      · simp only [Act.put, List.setIfInBounds_toArray, List.set_cons_zero, List.set_cons_succ]
        rfl
      refine take1_ (i := 4) (v := ?_) (a' := ?_) (some 71) #[true, true, true, true, true, false, false, false] rfl rfl (by kernel_rfl) (fun _ _ _ h => h) (Or.inl ⟨by rfl, ?_⟩) hHeld ?_ ?_
      rotate_left
      · (intro w hSw; (try dsimp only at hSw); go_simp; (try with_reducible rfl))
      rotate_left
      · simp only [Act.put, List.setIfInBounds_toArray, List.set_cons_zero, List.set_cons_succ]
        rfl
      refine take1_ (i := 5) (v := ?_) (a' := ?_) (some 72) #[true, true, true, true, true, true, false, false] rfl rfl (by kernel_rfl) (fun _ _ _ h => h) (Or.inl ⟨by rfl, ?_⟩) hHeld ?_ ?_
      rotate_left
      · (intro w hSw; (try dsimp only at hSw); go_simp; (try with_reducible rfl))
      rotate_left
      · simp only [Act.put, List.setIfInBounds_toArray, List.set_cons_zero, List.set_cons_succ]
        rfl
      refine take1_ (i := 6) (v := ?_) (a' := ?_) (some 73) #[true, true, true, true, true, true, true, false] rfl rfl (by kernel_rfl) (fun _ _ _ h => h) (Or.inl ⟨by rfl, ?_⟩) hHeld ?_ ?_
      rotate_left
      · (intro w hSw; (try dsimp only at hSw); go_simp; (try with_reducible rfl))
      rotate_left
      · simp only [Act.put, List.setIfInBounds_toArray, List.set_cons_zero, List.set_cons_succ]
        rfl
      refine loud1_ (i := 7) (some 74) #[true, true, true, true, true, true, true, true] rfl rfl (by kernel_rfl) (fun K hK => ?_)
      go_simp
      (go_at_call 181; refine HC11.out.mono ?_; rintro e w12 ⟨rfl, hcw, hbw⟩; have HW12 := Lib.hid hcw; have HB12 := Lib.hid (HB11.out.drew.trans hbw); have hnx := HB12.out; clear hcw hbw)
      refine hK.out _ _ (by exact hnx) (fun hHeld' => ?_)
      clear hK K hHeld
      have hHeld := hHeld'
      clear hHeld'
      try simp only [Act.put, List.setIfInBounds_toArray, List.set_cons_zero, List.set_cons_succ]
      refine wpAnyH_done (by kernel_rfl) ?_ _

      clear hHeld hnx HC11 HW11
      go_wp2
      go_end0
      have hE : l ++ fB (inoL x) = (((l ++ fB (inoL5 x)) ++ fB (fourL x.ds)) ++ wB 4 x.single.toNat) ++ wB 4 x.dbl.toNat := by simp [inoL, fB_append, fB, List.append_assoc]
      have hF : (bad || fBad (inoL x)) = (((((((bad || fBad (inoL5 x)) || fBad (fourL x.ds)) || decide (x.single < 0)) || !fitB 4 x.single.toNat) || decide (x.dbl < 0)) || !fitB 4 x.dbl.toNat)) := by simp [inoL, fBad_append, fBad, Bool.or_assoc]
      rw [hE, hF]
      exact ⟨rfl, HW12.out, HB12.out⟩
end
end Go.Proofs.Ytcpfafmkhegckaa
/-
  Codec: the pass of an inode, when it reads.
-/
namespace Go.Proofs.Ytcpfafmkhegckaa
open Go.RowKit
set_option linter.unusedVariables false
set_option linter.unusedSimpArgs false
set_option linter.unnecessarySimpa false
theorem rOk_eq (l : List UInt8) (a k : Nat) (hk : 1 ≤ k ∧ k ≤ 8) : rOk l a k = decide (a + k ≤ l.length) := by
  unfold rOk fitsB
  rw [decide_eq_decide]
  omega
theorem bad_next (l : List UInt8) (a k : Nat) (hk : 1 ≤ k ∧ k ≤ 8) : (decide (l.length < a) || !rOk l a k) = decide (l.length < a + k) := by
  rw [rOk_eq l a k hk]
  by_cases h : l.length < a
  · simp [h]; omega
  · by_cases h2 : a + k ≤ l.length
    · simp [h2]; omega
    · simp [h2]; omega
def rds (l : List UInt8) (k : Nat) : List Int := (List.range k).map (fun i => (rN l (15 + 4 * i) 4 : Int)) ++ List.replicate (8 - k) 0
theorem rds_len (l : List UInt8) (k : Nat) (h : k ≤ 8) : (rds l k).length = 8 := by unfold rds; simp; omega
theorem rds_next (l : List UInt8) (k : Nat) (h : k < 8) : (rds l k).set k (rN l (15 + 4 * k) 4 : Int) = rds l (k + 1) := by
  unfold rds
  rw [List.set_append, if_neg (by simp), List.length_map, List.length_range, Nat.sub_self, show 8 - k = (8 - (k + 1)) + 1 from by omega, List.replicate_succ, List.set_cons_zero, List.range_succ, List.map_append]
  simp
def rino (l : List UInt8) : Ino := ⟨rN l 0 2, rN l 2 4, (rN l 6 1 : Int), (rN l 7 4 : Int), rN l 11 4, rds l 8, (rN l 47 4 : Int), (rN l 51 4 : Int)⟩
theorem inoF_len (a b : Nat) (c d : Int) (e : Nat) (ds : List Int) (s t : Int) : (inoF a b c d e ds s t).length = ds.length + 7 := by simp [inoF]
theorem inoF_set5 (a b : Nat) (c d : Int) (e : Nat) (ds : List Int) (s t v : Int) (k : Nat) (h : k < ds.length) : (inoF a b c d e ds s t).toArray.setIfInBounds (5 + k) (.int .i64 v) = (inoF a b c d e (ds.set k v) s t).toArray := by
  rw [List.setIfInBounds_toArray]
  unfold inoF
  rw [show 5 + k = k + 1 + 1 + 1 + 1 + 1 from by omega]
  simp only [List.set_cons_succ]
  rw [List.set_append_left (h := by simpa using h), List.map_set]
theorem inoF_set6 (a b : Nat) (c d : Int) (e : Nat) (ds : List Int) (s t v : Int) (h : ds.length = 8) : (inoF a b c d e ds s t).toArray.setIfInBounds 13 (.int .i64 v) = (inoF a b c d e ds v t).toArray := by
  rw [List.setIfInBounds_toArray]
  unfold inoF
  simp only [List.set_cons_succ]
  rw [List.set_append, if_neg (by simp [h])]
  simp [h]
theorem inoF_set7 (a b : Nat) (c d : Int) (e : Nat) (ds : List Int) (s t v : Int) (h : ds.length = 8) : (inoF a b c d e ds s t).toArray.setIfInBounds 14 (.int .i64 v) = (inoF a b c d e ds s v).toArray := by
  rw [List.setIfInBounds_toArray]
  unfold inoF
  simp only [List.set_cons_succ]
  rw [List.set_append, if_neg (by simp [h])]
  simp [h]
theorem inoF_get5 (a b : Nat) (c d : Int) (e : Nat) (ds : List Int) (s t : Int) (k : Nat) (h : k < ds.length) : (inoF a b c d e ds s t).toArray[5 + k]? = some (.int .i64 (ds.getD k 0)) := by
  rw [List.getElem?_toArray]
  unfold inoF
  rw [show 5 + k = k + 1 + 1 + 1 + 1 + 1 from by omega]
  simp only [List.getElem?_cons_succ]
  rw [List.getElem?_append_left (by simpa using h)]
  simp [List.getD_eq_getElem?_getD, h]
theorem inoF_get6 (a b : Nat) (c d : Int) (e : Nat) (ds : List Int) (s t : Int) (h : ds.length = 8) : (inoF a b c d e ds s t).toArray[13]? = some (.int .i64 s) ∧ (inoF a b c d e ds s t).toArray[14]? = some (.int .i64 t) := by
  rw [List.getElem?_toArray, List.getElem?_toArray]
  unfold inoF
  simp only [List.getElem?_cons_succ]
  constructor
  · rw [List.getElem?_append_right (by simp [h])]; simp [h]
  · rw [List.getElem?_append_right (by simp [h])]; simp [h]
section
variable {w : World} {g : Nat} {v : Value} {l : List UInt8}
set_option maxRecDepth 10000 in
set_option maxHeartbeats 8000000 in
theorem pr_inode (pb : Nat) (T : TypeId) (h : CrAt w g v l 0 false) (hl : l.length ≤ 1000) (hb : w.heap[pb]? = some (.cells (inoF 0 0 0 0 0 (rds l 0) 0 0).toArray T (0, 0))) (hpg : pb ≠ g) (hv : Apart (· = pb) v l) :
    Calls Try.prog 71 #[rV g, .pointer (some ⟨pb, 0, none⟩)] w fun e w' => e = .returned (.tuple #[]) ∧ CrPass w g v l 55 (decide (l.length < 55)) pb (rino l).cells.toArray T w' := by
  have HC0 := Lib.hid (CrPass.mk h hb (Keep.refl _ w))
  clear h hb
  have na_word := fun W => na_r ⟨g, 0, none⟩ W "drumlin/codec.word" (by simp)
  have mt_word := fun W => mr_word ⟨g, 0, none⟩ W
  have na_int := fun W => na_r ⟨g, 0, none⟩ W "drumlin/codec.int" (by simp)
  have mt_int := fun W => mr_int ⟨g, 0, none⟩ W
  unfold rV
  go_enter Try.func71, Try.ntmps71
  go_upto_region 0 with fail
  have HD := Lib.hid HC0.out.drew
  have HN := Lib.hid (cr_word 2 pb 0 _ T 0 HD.out.form (by decide) (by omega) hl HD.out.cell (by simp [inoF]) hpg hv)
  refine wp_region_held_drew (S := (fun w' => True)) (by kernel_rfl) (by trivial) (fun hHeld => ?_)
  refine take1_ (i := 0) (v := ?_) (a' := ?_) (some 5) #[true, false, false, false, false, false, false, false] rfl rfl (by kernel_rfl) (fun _ _ _ h => h) (Or.inl ⟨by rfl, ?_⟩) hHeld ?_ ?_
  rotate_left
  · (intro w hSw; (try dsimp only at hSw); go_simp; (try with_reducible rfl))
  rotate_left
  · simp only [Act.put, List.setIfInBounds_toArray, List.set_cons_zero, List.set_cons_succ]
    rfl
  refine take1_ (i := 1) (v := ?_) (a' := ?_) (some 6) #[true, true, false, false, false, false, false, false] rfl rfl (by kernel_rfl) (fun _ _ _ h => h) (Or.inl ⟨by rfl, ?_⟩) hHeld ?_ ?_
  rotate_left
  · (intro w hSw; (try dsimp only at hSw); go_simp; (try with_reducible rfl))
  rotate_left
  · simp only [Act.put, List.setIfInBounds_toArray, List.set_cons_zero, List.set_cons_succ]
    rfl
  refine take1_ (i := 2) (v := ?_) (a' := ?_) (some 7) #[true, true, true, false, false, false, false, false] rfl rfl (by kernel_rfl) (fun _ _ _ h => h) (Or.inl ⟨by rfl, ?_⟩) hHeld ?_ ?_
  rotate_left
  · (intro w hSw; (try dsimp only at hSw); go_simp; (try with_reducible rfl))
  rotate_left
  · simp only [Act.put, List.setIfInBounds_toArray, List.set_cons_zero, List.set_cons_succ]
    rfl
  refine take1_ (i := 3) (v := ?_) (a' := ?_) (some 8) #[true, true, true, true, false, false, false, false] rfl rfl (by kernel_rfl) (fun _ _ _ h => h) (Or.inl ⟨by rfl, ?_⟩) hHeld ?_ ?_
  rotate_left
  · (intro w hSw; (try dsimp only at hSw); go_simp; (try with_reducible rfl))
  rotate_left
  · simp only [Act.put, List.setIfInBounds_toArray, List.set_cons_zero, List.set_cons_succ]
    rfl
  refine take1_ (i := 4) (v := ?_) (a' := ?_) (some 9) #[true, true, true, true, true, false, false, false] rfl rfl (by kernel_rfl) (fun _ _ _ h => h) (Or.inl ⟨by rfl, ?_⟩) hHeld ?_ ?_
  rotate_left
  · (intro w hSw; (try dsimp only at hSw); go_simp; (try with_reducible rfl))
  rotate_left
  · simp only [Act.put, List.setIfInBounds_toArray, List.set_cons_zero, List.set_cons_succ]
    rfl
  refine take1_ (i := 5) (v := ?_) (a' := ?_) (some 10) #[true, true, true, true, true, true, false, false] rfl rfl (by kernel_rfl) (fun _ _ _ h => h) (Or.inl ⟨by rfl, ?_⟩) hHeld ?_ ?_
  rotate_left
  · (intro w hSw; (try dsimp only at hSw); go_simp; (try with_reducible rfl))
  rotate_left
  · simp only [Act.put, List.setIfInBounds_toArray, List.set_cons_zero, List.set_cons_succ]
    rfl
  refine take1_ (i := 6) (v := ?_) (a' := ?_) (some 11) #[true, true, true, true, true, true, true, false] rfl rfl (by kernel_rfl) (fun _ _ _ h => h) (Or.inl ⟨by rfl, ?_⟩) hHeld ?_ ?_
  rotate_left
  · (intro w hSw; (try dsimp only at hSw); go_simp; (try with_reducible rfl))
  rotate_left
  · simp only [Act.put, List.setIfInBounds_toArray, List.set_cons_zero, List.set_cons_succ]
    rfl
  refine loud1_ (i := 7) (some 12) #[true, true, true, true, true, true, true, true] rfl rfl (by kernel_rfl) (fun K hK => ?_)
  go_simp
  (go_at_call 188; refine HN.out.mono ?_; rintro e w1 ⟨rfl, hct⟩; have HCn := Lib.hid (HD.out.next hct); clear hct)
  refine hK.out _ _ (by trivial) (fun hHeld' => ?_)
  clear hK K hHeld
  have hHeld := hHeld'
  clear hHeld'
  try simp only [Act.put, List.setIfInBounds_toArray, List.set_cons_zero, List.set_cons_succ]
  refine wpAnyH_done (by kernel_rfl) ?_ _
  clear hHeld HN HD HC0
  have HC1 : Hid (CrPass w g v l 2 (decide (l.length < 2)) pb (inoF (rN l 0 2) 0 0 0 0 (rds l 0) 0 0).toArray T w1) := Lib.hid (by
    have := HCn.out
    rw [show (false || !rOk l 0 2) = decide (l.length < 0 + 2) from bad_next l 0 2 (by decide)] at this
    simpa [inoF] using this)
  clear HCn
  go_upto_region 1 with fail
  have HD := Lib.hid HC1.out.drew
  have HN := Lib.hid (cr_word 4 pb 1 _ T 0 HD.out.form (by decide) (by omega) hl HD.out.cell (by simp [inoF]) hpg hv)
  refine wp_region_held_drew (S := (fun w' => True)) (by kernel_rfl) (by trivial) (fun hHeld => ?_)
  refine take1_ (i := 0) (v := ?_) (a' := ?_) (some 13) #[true, false, false, false, false, false, false, false] rfl rfl (by kernel_rfl) (fun _ _ _ h => h) (Or.inl ⟨by rfl, ?_⟩) hHeld ?_ ?_
  rotate_left
  · (intro w hSw; (try dsimp only at hSw); go_simp; (try with_reducible rfl))
  rotate_left
  · simp only [Act.put, List.setIfInBounds_toArray, List.set_cons_zero, List.set_cons_succ]
    rfl
  refine take1_ (i := 1) (v := ?_) (a' := ?_) (some 14) #[true, true, false, false, false, false, false, false] rfl rfl (by kernel_rfl) (fun _ _ _ h => h) (Or.inl ⟨by rfl, ?_⟩) hHeld ?_ ?_
  rotate_left
  · (intro w hSw; (try dsimp only at hSw); go_simp; (try with_reducible rfl))
  rotate_left
  · simp only [Act.put, List.setIfInBounds_toArray, List.set_cons_zero, List.set_cons_succ]
    rfl
  refine take1_ (i := 2) (v := ?_) (a' := ?_) (some 15) #[true, true, true, false, false, false, false, false] rfl rfl (by kernel_rfl) (fun _ _ _ h => h) (Or.inl ⟨by rfl, ?_⟩) hHeld ?_ ?_
  rotate_left
  · (intro w hSw; (try dsimp only at hSw); go_simp; (try with_reducible rfl))
  rotate_left
  · simp only [Act.put, List.setIfInBounds_toArray, List.set_cons_zero, List.set_cons_succ]
    rfl
  refine take1_ (i := 3) (v := ?_) (a' := ?_) (some 16) #[true, true, true, true, false, false, false, false] rfl rfl (by kernel_rfl) (fun _ _ _ h => h) (Or.inl ⟨by rfl, ?_⟩) hHeld ?_ ?_
  rotate_left
  · (intro w hSw; (try dsimp only at hSw); go_simp; (try with_reducible rfl))
  rotate_left
  · simp only [Act.put, List.setIfInBounds_toArray, List.set_cons_zero, List.set_cons_succ]
    rfl
  refine take1_ (i := 4) (v := ?_) (a' := ?_) (some 17) #[true, true, true, true, true, false, false, false] rfl rfl (by kernel_rfl) (fun _ _ _ h => h) (Or.inl ⟨by rfl, ?_⟩) hHeld ?_ ?_
  rotate_left
  · (intro w hSw; (try dsimp only at hSw); go_simp; (try with_reducible rfl))
  rotate_left
  · simp only [Act.put, List.setIfInBounds_toArray, List.set_cons_zero, List.set_cons_succ]
    rfl
  refine take1_ (i := 5) (v := ?_) (a' := ?_) (some 18) #[true, true, true, true, true, true, false, false] rfl rfl (by kernel_rfl) (fun _ _ _ h => h) (Or.inl ⟨by rfl, ?_⟩) hHeld ?_ ?_
  rotate_left
  · (intro w hSw; (try dsimp only at hSw); go_simp; (try with_reducible rfl))
  rotate_left
  · simp only [Act.put, List.setIfInBounds_toArray, List.set_cons_zero, List.set_cons_succ]
    rfl
  refine take1_ (i := 6) (v := ?_) (a' := ?_) (some 19) #[true, true, true, true, true, true, true, false] rfl rfl (by kernel_rfl) (fun _ _ _ h => h) (Or.inl ⟨by rfl, ?_⟩) hHeld ?_ ?_
  rotate_left
  · (intro w hSw; (try dsimp only at hSw); go_simp; (try with_reducible rfl))
  rotate_left
  · simp only [Act.put, List.setIfInBounds_toArray, List.set_cons_zero, List.set_cons_succ]
    rfl
  refine loud1_ (i := 7) (some 20) #[true, true, true, true, true, true, true, true] rfl rfl (by kernel_rfl) (fun K hK => ?_)
  go_simp
  (go_at_call 188; refine HN.out.mono ?_; rintro e w2 ⟨rfl, hct⟩; have HCn := Lib.hid (HD.out.next hct); clear hct)
  refine hK.out _ _ (by trivial) (fun hHeld' => ?_)
  clear hK K hHeld
  have hHeld := hHeld'
  clear hHeld'
  try simp only [Act.put, List.setIfInBounds_toArray, List.set_cons_zero, List.set_cons_succ]
  refine wpAnyH_done (by kernel_rfl) ?_ _
  clear hHeld HN HD HC1
  have HC2 : Hid (CrPass w g v l 6 (decide (l.length < 6)) pb (inoF (rN l 0 2) (rN l 2 4) 0 0 0 (rds l 0) 0 0).toArray T w2) := Lib.hid (by
    have := HCn.out
    rw [bad_next l 2 4 (by decide)] at this
    simpa [inoF] using this)
  clear HCn
  go_upto_region 2 with fail
  have HD := Lib.hid HC2.out.drew
  have HN := Lib.hid (cr_int 1 pb 2 _ T 0 HD.out.form (by decide) (by omega) hl HD.out.cell (by simp [inoF]) hpg hv)
  refine wp_region_held_drew (S := (fun w' => True)) (by kernel_rfl) (by trivial) (fun hHeld => ?_)
  refine take1_ (i := 0) (v := ?_) (a' := ?_) (some 21) #[true, false, false, false, false, false, false, false] rfl rfl (by kernel_rfl) (fun _ _ _ h => h) (Or.inl ⟨by rfl, ?_⟩) hHeld ?_ ?_
  rotate_left
  · (intro w hSw; (try dsimp only at hSw); go_simp; (try with_reducible rfl))
  rotate_left
  · simp only [Act.put, List.setIfInBounds_toArray, List.set_cons_zero, List.set_cons_succ]
    rfl
  refine take1_ (i := 1) (v := ?_) (a' := ?_) (some 22) #[true, true, false, false, false, false, false, false] rfl rfl (by kernel_rfl) (fun _ _ _ h => h) (Or.inl ⟨by rfl, ?_⟩) hHeld ?_ ?_
  rotate_left
  · (intro w hSw; (try dsimp only at hSw); go_simp; (try with_reducible rfl))
  rotate_left
  · simp only [Act.put, List.setIfInBounds_toArray, List.set_cons_zero, List.set_cons_succ]
    rfl
  refine take1_ (i := 2) (v := ?_) (a' := ?_) (some 23) #[true, true, true, false, false, false, false, false] rfl rfl (by kernel_rfl) (fun _ _ _ h => h) (Or.inl ⟨by rfl, ?_⟩) hHeld ?_ ?_
  rotate_left
  · (intro w hSw; (try dsimp only at hSw); go_simp; (try with_reducible rfl))
  rotate_left
  · simp only [Act.put, List.setIfInBounds_toArray, List.set_cons_zero, List.set_cons_succ]
    rfl
  refine take1_ (i := 3) (v := ?_) (a' := ?_) (some 24) #[true, true, true, true, false, false, false, false] rfl rfl (by kernel_rfl) (fun _ _ _ h => h) (Or.inl ⟨by rfl, ?_⟩) hHeld ?_ ?_
  rotate_left
  · (intro w hSw; (try dsimp only at hSw); go_simp; (try with_reducible rfl))
  rotate_left
  · simp only [Act.put, List.setIfInBounds_toArray, List.set_cons_zero, List.set_cons_succ]
    rfl
  refine take1_ (i := 4) (v := ?_) (a' := ?_) (some 25) #[true, true, true, true, true, false, false, false] rfl rfl (by kernel_rfl) (fun _ _ _ h => h) (Or.inl ⟨by rfl, ?_⟩) hHeld ?_ ?_
  rotate_left
  · (intro w hSw; (try dsimp only at hSw); go_simp; (try with_reducible rfl))
  rotate_left
  · simp only [Act.put, List.setIfInBounds_toArray, List.set_cons_zero, List.set_cons_succ]
    rfl
  refine take1_ (i := 5) (v := ?_) (a' := ?_) (some 26) #[true, true, true, true, true, true, false, false] rfl rfl (by kernel_rfl) (fun _ _ _ h => h) (Or.inl ⟨by rfl, ?_⟩) hHeld ?_ ?_
  rotate_left
  · (intro w hSw; (try dsimp only at hSw); go_simp; (try with_reducible rfl))
  rotate_left
  · simp only [Act.put, List.setIfInBounds_toArray, List.set_cons_zero, List.set_cons_succ]
    rfl
  refine take1_ (i := 6) (v := ?_) (a' := ?_) (some 27) #[true, true, true, true, true, true, true, false] rfl rfl (by kernel_rfl) (fun _ _ _ h => h) (Or.inl ⟨by rfl, ?_⟩) hHeld ?_ ?_
  rotate_left
  · (intro w hSw; (try dsimp only at hSw); go_simp; (try with_reducible rfl))
  rotate_left
  · simp only [Act.put, List.setIfInBounds_toArray, List.set_cons_zero, List.set_cons_succ]
    rfl
  refine loud1_ (i := 7) (some 28) #[true, true, true, true, true, true, true, true] rfl rfl (by kernel_rfl) (fun K hK => ?_)
  go_simp
  (go_at_call 185; refine HN.out.mono ?_; rintro e w3 ⟨rfl, hct⟩; have HCn := Lib.hid (HD.out.next hct); clear hct)
  refine hK.out _ _ (by trivial) (fun hHeld' => ?_)
  clear hK K hHeld
  have hHeld := hHeld'
  clear hHeld'
  try simp only [Act.put, List.setIfInBounds_toArray, List.set_cons_zero, List.set_cons_succ]
  refine wpAnyH_done (by kernel_rfl) ?_ _
  clear hHeld HN HD HC2
  have HC3 : Hid (CrPass w g v l 7 (decide (l.length < 7)) pb (inoF (rN l 0 2) (rN l 2 4) (rN l 6 1) 0 0 (rds l 0) 0 0).toArray T w3) := Lib.hid (by
    have := HCn.out
    rw [bad_next l 6 1 (by decide)] at this
    simpa [inoF] using this)
  clear HCn
  go_upto_region 3 with fail
  have HD := Lib.hid HC3.out.drew
  have HN := Lib.hid (cr_int 4 pb 3 _ T 0 HD.out.form (by decide) (by omega) hl HD.out.cell (by simp [inoF]) hpg hv)
  refine wp_region_held_drew (S := (fun w' => True)) (by kernel_rfl) (by trivial) (fun hHeld => ?_)
  refine take1_ (i := 0) (v := ?_) (a' := ?_) (some 29) #[true, false, false, false, false, false, false, false] rfl rfl (by kernel_rfl) (fun _ _ _ h => h) (Or.inl ⟨by rfl, ?_⟩) hHeld ?_ ?_
  rotate_left
  · (intro w hSw; (try dsimp only at hSw); go_simp; (try with_reducible rfl))
  rotate_left
  · simp only [Act.put, List.setIfInBounds_toArray, List.set_cons_zero, List.set_cons_succ]
    rfl
  refine take1_ (i := 1) (v := ?_) (a' := ?_) (some 30) #[true, true, false, false, false, false, false, false] rfl rfl (by kernel_rfl) (fun _ _ _ h => h) (Or.inl ⟨by rfl, ?_⟩) hHeld ?_ ?_
  rotate_left
  · (intro w hSw; (try dsimp only at hSw); go_simp; (try with_reducible rfl))
  rotate_left
  · simp only [Act.put, List.setIfInBounds_toArray, List.set_cons_zero, List.set_cons_succ]
    rfl
  refine take1_ (i := 2) (v := ?_) (a' := ?_) (some 31) #[true, true, true, false, false, false, false, false] rfl rfl (by kernel_rfl) (fun _ _ _ h => h) (Or.inl ⟨by rfl, ?_⟩) hHeld ?_ ?_
  rotate_left
  · (intro w hSw; (try dsimp only at hSw); go_simp; (try with_reducible rfl))
  rotate_left
  · simp only [Act.put, List.setIfInBounds_toArray, List.set_cons_zero, List.set_cons_succ]
    rfl
  refine take1_ (i := 3) (v := ?_) (a' := ?_) (some 32) #[true, true, true, true, false, false, false, false] rfl rfl (by kernel_rfl) (fun _ _ _ h => h) (Or.inl ⟨by rfl, ?_⟩) hHeld ?_ ?_
  rotate_left
  · (intro w hSw; (try dsimp only at hSw); go_simp; (try with_reducible rfl))
  rotate_left
  · simp only [Act.put, List.setIfInBounds_toArray, List.set_cons_zero, List.set_cons_succ]
    rfl
  refine take1_ (i := 4) (v := ?_) (a' := ?_) (some 33) #[true, true, true, true, true, false, false, false] rfl rfl (by kernel_rfl) (fun _ _ _ h => h) (Or.inl ⟨by rfl, ?_⟩) hHeld ?_ ?_
  rotate_left
  · (intro w hSw; (try dsimp only at hSw); go_simp; (try with_reducible rfl))
  rotate_left
  · simp only [Act.put, List.setIfInBounds_toArray, List.set_cons_zero, List.set_cons_succ]
    rfl
  refine take1_ (i := 5) (v := ?_) (a' := ?_) (some 34) #[true, true, true, true, true, true, false, false] rfl rfl (by kernel_rfl) (fun _ _ _ h => h) (Or.inl ⟨by rfl, ?_⟩) hHeld ?_ ?_
  rotate_left
  · (intro w hSw; (try dsimp only at hSw); go_simp; (try with_reducible rfl))
  rotate_left
  · simp only [Act.put, List.setIfInBounds_toArray, List.set_cons_zero, List.set_cons_succ]
    rfl
  refine take1_ (i := 6) (v := ?_) (a' := ?_) (some 35) #[true, true, true, true, true, true, true, false] rfl rfl (by kernel_rfl) (fun _ _ _ h => h) (Or.inl ⟨by rfl, ?_⟩) hHeld ?_ ?_
  rotate_left
  · (intro w hSw; (try dsimp only at hSw); go_simp; (try with_reducible rfl))
  rotate_left
  · simp only [Act.put, List.setIfInBounds_toArray, List.set_cons_zero, List.set_cons_succ]
    rfl
  refine loud1_ (i := 7) (some 36) #[true, true, true, true, true, true, true, true] rfl rfl (by kernel_rfl) (fun K hK => ?_)
  go_simp
  (go_at_call 185; refine HN.out.mono ?_; rintro e w4 ⟨rfl, hct⟩; have HCn := Lib.hid (HD.out.next hct); clear hct)
  refine hK.out _ _ (by trivial) (fun hHeld' => ?_)
  clear hK K hHeld
  have hHeld := hHeld'
  clear hHeld'
  try simp only [Act.put, List.setIfInBounds_toArray, List.set_cons_zero, List.set_cons_succ]
  refine wpAnyH_done (by kernel_rfl) ?_ _
  clear hHeld HN HD HC3
  have HC4 : Hid (CrPass w g v l 11 (decide (l.length < 11)) pb (inoF (rN l 0 2) (rN l 2 4) (rN l 6 1) (rN l 7 4) 0 (rds l 0) 0 0).toArray T w4) := Lib.hid (by
    have := HCn.out
    rw [bad_next l 7 4 (by decide)] at this
    simpa [inoF] using this)
  clear HCn
  go_upto_region 4 with fail
  have HD := Lib.hid HC4.out.drew
  have HN := Lib.hid (cr_word 4 pb 4 _ T 0 HD.out.form (by decide) (by omega) hl HD.out.cell (by simp [inoF]) hpg hv)
  refine wp_region_held_drew (S := (fun w' => True)) (by kernel_rfl) (by trivial) (fun hHeld => ?_)
  refine take1_ (i := 0) (v := ?_) (a' := ?_) (some 37) #[true, false, false, false, false, false, false, false] rfl rfl (by kernel_rfl) (fun _ _ _ h => h) (Or.inl ⟨by rfl, ?_⟩) hHeld ?_ ?_
  rotate_left
  · (intro w hSw; (try dsimp only at hSw); go_simp; (try with_reducible rfl))
  rotate_left
  · simp only [Act.put, List.setIfInBounds_toArray, List.set_cons_zero, List.set_cons_succ]
    rfl
  refine take1_ (i := 1) (v := ?_) (a' := ?_) (some 38) #[true, true, false, false, false, false, false, false] rfl rfl (by kernel_rfl) (fun _ _ _ h => h) (Or.inl ⟨by rfl, ?_⟩) hHeld ?_ ?_
  rotate_left
  · (intro w hSw; (try dsimp only at hSw); go_simp; (try with_reducible rfl))
  rotate_left
  · simp only [Act.put, List.setIfInBounds_toArray, List.set_cons_zero, List.set_cons_succ]
    rfl
  refine take1_ (i := 2) (v := ?_) (a' := ?_) (some 39) #[true, true, true, false, false, false, false, false] rfl rfl (by kernel_rfl) (fun _ _ _ h => h) (Or.inl ⟨by rfl, ?_⟩) hHeld ?_ ?_
  rotate_left
  · (intro w hSw; (try dsimp only at hSw); go_simp; (try with_reducible rfl))
  rotate_left
  · simp only [Act.put, List.setIfInBounds_toArray, List.set_cons_zero, List.set_cons_succ]
    rfl
  refine take1_ (i := 3) (v := ?_) (a' := ?_) (some 40) #[true, true, true, true, false, false, false, false] rfl rfl (by kernel_rfl) (fun _ _ _ h => h) (Or.inl ⟨by rfl, ?_⟩) hHeld ?_ ?_
  rotate_left
  · (intro w hSw; (try dsimp only at hSw); go_simp; (try with_reducible rfl))
  rotate_left
  · simp only [Act.put, List.setIfInBounds_toArray, List.set_cons_zero, List.set_cons_succ]
    rfl
  refine take1_ (i := 4) (v := ?_) (a' := ?_) (some 41) #[true, true, true, true, true, false, false, false] rfl rfl (by kernel_rfl) (fun _ _ _ h => h) (Or.inl ⟨by rfl, ?_⟩) hHeld ?_ ?_
  rotate_left
  · (intro w hSw; (try dsimp only at hSw); go_simp; (try with_reducible rfl))
  rotate_left
  · simp only [Act.put, List.setIfInBounds_toArray, List.set_cons_zero, List.set_cons_succ]
    rfl
  refine take1_ (i := 5) (v := ?_) (a' := ?_) (some 42) #[true, true, true, true, true, true, false, false] rfl rfl (by kernel_rfl) (fun _ _ _ h => h) (Or.inl ⟨by rfl, ?_⟩) hHeld ?_ ?_
  rotate_left
  · (intro w hSw; (try dsimp only at hSw); go_simp; (try with_reducible rfl))
  rotate_left
  · simp only [Act.put, List.setIfInBounds_toArray, List.set_cons_zero, List.set_cons_succ]
    rfl
  refine take1_ (i := 6) (v := ?_) (a' := ?_) (some 43) #[true, true, true, true, true, true, true, false] rfl rfl (by kernel_rfl) (fun _ _ _ h => h) (Or.inl ⟨by rfl, ?_⟩) hHeld ?_ ?_
  rotate_left
  · (intro w hSw; (try dsimp only at hSw); go_simp; (try with_reducible rfl))
  rotate_left
  · simp only [Act.put, List.setIfInBounds_toArray, List.set_cons_zero, List.set_cons_succ]
    rfl
  refine loud1_ (i := 7) (some 44) #[true, true, true, true, true, true, true, true] rfl rfl (by kernel_rfl) (fun K hK => ?_)
  go_simp
  (go_at_call 188; refine HN.out.mono ?_; rintro e w5 ⟨rfl, hct⟩; have HCn := Lib.hid (HD.out.next hct); clear hct)
  refine hK.out _ _ (by trivial) (fun hHeld' => ?_)
  clear hK K hHeld
  have hHeld := hHeld'
  clear hHeld'
  try simp only [Act.put, List.setIfInBounds_toArray, List.set_cons_zero, List.set_cons_succ]
  refine wpAnyH_done (by kernel_rfl) ?_ _
  clear hHeld HN HD HC4
  have HC5 : Hid (CrPass w g v l 15 (decide (l.length < 15)) pb (inoF (rN l 0 2) (rN l 2 4) (rN l 6 1) (rN l 7 4) (rN l 11 4) (rds l 0) 0 0).toArray T w5) := Lib.hid (by
    have := HCn.out
    rw [bad_next l 11 4 (by decide)] at this
    simpa [inoF] using this)
  clear HCn
  go_wp2
  go_loopw [45] (fun i wr => ∃ k : Nat, k ≤ 8 ∧ i = .int .i64 (k : Int) ∧ Hid (CrPass w g v l (15 + 4 * k) (decide (l.length < 15 + 4 * k)) pb (inoF (rN l 0 2) (rN l 2 4) (rN l 6 1) (rN l 7 4) (rN l 11 4) (rds l k) 0 0).toArray T wr)) (fun i _ => (8 - intOf i).toNat)
  case atStart => exact ⟨0, by omega, rfl, HC5⟩
  case round =>
    obtain ⟨k, hk, rfl, HCk⟩ := hrel
    clear HC5
    by_cases hlt : k < 8
    · have hkI : (k : Int) < 8 := by omega
      go_upto_region 8 with fail
      have HD := Lib.hid HCk.out.drew
      have HN := Lib.hid (cr_int 4 pb (5 + k) _ T ((rds l k).getD k 0) HD.out.form (by decide) (by omega) hl HD.out.cell (inoF_get5 _ _ _ _ _ _ _ _ k (by rw [rds_len l k hk]; exact hlt)) hpg hv)
      refine wp_region_held_drew (S := (fun w' => True)) (by kernel_rfl) (by trivial) (fun hHeld => ?_)
      refine take1_ (i := 0) (v := ?_) (a' := ?_) (some 48) #[true, false, false, false, false, false, false, false, false, false] rfl rfl (by kernel_rfl) (fun _ _ _ h => h) (Or.inl ⟨by rfl, ?_⟩) hHeld ?_ ?_
      rotate_left
      · (intro w hSw; (try dsimp only at hSw); go_simp; (try with_reducible rfl))
      rotate_left
      · simp only [Act.put, List.setIfInBounds_toArray, List.set_cons_zero, List.set_cons_succ]
        rfl
      refine take1_ (i := 1) (v := ?_) (a' := ?_) (some 49) #[true, true, false, false, false, false, false, false, false, false] rfl rfl (by kernel_rfl) (fun _ _ _ h => h) (Or.inl ⟨by rfl, ?_⟩) hHeld ?_ ?_
      rotate_left
      · (intro w hSw; (try dsimp only at hSw); go_simp; (try with_reducible rfl))
      rotate_left
      · simp only [Act.put, List.setIfInBounds_toArray, List.set_cons_zero, List.set_cons_succ]
        rfl
      refine take1_ (i := 2) (v := ?_) (a' := ?_) (some 50) #[true, true, true, false, false, false, false, false, false, false] rfl rfl (by kernel_rfl) (fun _ _ _ h => h) (Or.inl ⟨by rfl, ?_⟩) hHeld ?_ ?_
      rotate_left
      · (intro w hSw; (try dsimp only at hSw); go_simp; (try with_reducible rfl))
      rotate_left
      · simp only [Act.put, List.setIfInBounds_toArray, List.set_cons_zero, List.set_cons_succ]
        rfl
      refine take1_ (i := 3) (v := ?_) (a' := ?_) (some 51) #[true, true, true, true, false, false, false, false, false, false] rfl rfl (by kernel_rfl) (fun _ _ _ h => h) (Or.inl ⟨by rfl, ?_⟩) hHeld ?_ ?_
      rotate_left
      · (intro w hSw; (try dsimp only at hSw); go_simp; (try with_reducible rfl))
      rotate_left
      · simp only [Act.put, List.setIfInBounds_toArray, List.set_cons_zero, List.set_cons_succ]
        rfl
      refine take1_ (i := 4) (v := ?_) (a' := ?_) (some 52) #[true, true, true, true, true, false, false, false, false, false] rfl rfl (by kernel_rfl) (fun _ _ _ h => h) (Or.inl ⟨by rfl, ?_⟩) hHeld ?_ ?_
      rotate_left
      · (intro w hSw; (try dsimp only at hSw); go_simp; (try with_reducible rfl))
      rotate_left
      · simp only [Act.put, List.setIfInBounds_toArray, List.set_cons_zero, List.set_cons_succ]
        rfl
      refine take1_ (i := 5) (v := ?_) (a' := ?_) (some 53) #[true, true, true, true, true, true, false, false, false, false] rfl rfl (by kernel_rfl) (fun _ _ _ h => h) (Or.inl ⟨by rfl, ?_⟩) hHeld ?_ ?_
      rotate_left
      · (intro w hSw; (try dsimp only at hSw); go_simp; (try with_reducible rfl))
      rotate_left
      · simp only [Act.put, List.setIfInBounds_toArray, List.set_cons_zero, List.set_cons_succ]
        rfl
      refine take1_ (i := 6) (v := ?_) (a' := ?_) (some 54) #[true, true, true, true, true, true, true, false, false, false] rfl rfl (by kernel_rfl) (fun _ _ _ h => h) (Or.inl ⟨by rfl, ?_⟩) hHeld ?_ ?_
      rotate_left
      · (intro w hSw; (try dsimp only at hSw); go_simp; (try with_reducible rfl))
      rotate_left
      · simp only [Act.put, List.setIfInBounds_toArray, List.set_cons_zero, List.set_cons_succ]
        rfl
      refine take1_ (i := 7) (v := ?_) (a' := ?_) (some 55) #[true, true, true, true, true, true, true, true, false, false] rfl rfl (by kernel_rfl) (fun _ _ _ h => h) (Or.inl ⟨by rfl, ?_⟩) hHeld ?_ ?_
      rotate_left
      · (intro w hSw; (try dsimp only at hSw); go_simp; (try with_reducible rfl))
      rotate_left
      · simp only [Act.put, List.setIfInBounds_toArray, List.set_cons_zero, List.set_cons_succ]
        rfl
      refine take1_ (i := 8) (v := ?_) (a' := ?_) (some 56) #[true, true, true, true, true, true, true, true, true, false] rfl rfl (by kernel_rfl) (fun _ _ _ h => h) (Or.inl ⟨by rfl, ?_⟩) hHeld ?_ ?_
      rotate_left
      · (intro w hSw; (try dsimp only at hSw); go_simp; (try with_reducible rfl))
      rotate_left
      · simp only [Act.put, List.setIfInBounds_toArray, List.set_cons_zero, List.set_cons_succ]
        rfl
      refine loud1_ (i := 9) (some 57) #[true, true, true, true, true, true, true, true, true, true] rfl rfl (by kernel_rfl) (fun K hK => ?_)
      go_simp
      (go_at_call 185; refine HN.out.mono ?_; rintro e w9 ⟨rfl, hct⟩; have HCn := Lib.hid (HD.out.next hct); clear hct)
      refine hK.out _ _ (by trivial) (fun hHeld' => ?_)
      clear hK K hHeld
      have hHeld := hHeld'
      clear hHeld'
      try simp only [Act.put, List.setIfInBounds_toArray, List.set_cons_zero, List.set_cons_succ]
      refine wpAnyH_done (by kernel_rfl) ?_ _
      clear hHeld HN HD HCk
      have HC9 : Hid (CrPass w g v l (15 + 4 * (k + 1)) (decide (l.length < 15 + 4 * (k + 1))) pb (inoF (rN l 0 2) (rN l 2 4) (rN l 6 1) (rN l 7 4) (rN l 11 4) (rds l (k + 1)) 0 0).toArray T w9) := Lib.hid (by
        have := HCn.out
        rw [bad_next l (15 + 4 * k) 4 (by decide), inoF_set5 _ _ _ _ _ _ _ _ _ k (by rw [rds_len l k hk]; exact hlt), rds_next l k hlt] at this
        rw [show 15 + 4 * (k + 1) = 15 + 4 * k + 4 from by omega]
        exact this)
      clear HCn
      go_wp2
      go_roundw
      case rel => exact ⟨k + 1, by omega, by go_num, HC9⟩
      case measure => simp [intOf]; omega
    · obtain rfl : k = 8 := by omega
      have HC10 : Hid (CrPass w g v l 47 (decide (l.length < 47)) pb (inoF (rN l 0 2) (rN l 2 4) (rN l 6 1) (rN l 7 4) (rN l 11 4) (rds l 8) 0 0).toArray T wr) := HCk
      clear HCk
      go_upto_region 10 with fail
      have HD := Lib.hid HC10.out.drew
      have HN := Lib.hid (cr_int 4 pb 13 _ T 0 HD.out.form (by decide) (by omega) hl HD.out.cell (inoF_get6 _ _ _ _ _ _ _ _ (rds_len l 8 (by omega))).1 hpg hv)
      refine wp_region_held_drew (S := (fun w' => True)) (by kernel_rfl) (by trivial) (fun hHeld => ?_)
      refine take1_ (i := 0) (v := ?_) (a' := ?_) (some 59) #[true, false, false, false, false, false, false, false] rfl rfl (by kernel_rfl) (fun _ _ _ h => h) (Or.inl ⟨by rfl, ?_⟩) hHeld ?_ ?_
      rotate_left
      · (intro w hSw; (try dsimp only at hSw); go_simp; (try with_reducible rfl))
      rotate_left
      · simp only [Act.put, List.setIfInBounds_toArray, List.set_cons_zero, List.set_cons_succ]
        rfl
      refine take1_ (i := 1) (v := ?_) (a' := ?_) (some 60) #[true, true, false, false, false, false, false, false] rfl rfl (by kernel_rfl) (fun _ _ _ h => h) (Or.inl ⟨by rfl, ?_⟩) hHeld ?_ ?_
      rotate_left
      · (intro w hSw; (try dsimp only at hSw); go_simp; (try with_reducible rfl))
      rotate_left
      · simp only [Act.put, List.setIfInBounds_toArray, List.set_cons_zero, List.set_cons_succ]
        rfl
      refine take1_ (i := 2) (v := ?_) (a' := ?_) (some 61) #[true, true, true, false, false, false, false, false] rfl rfl (by kernel_rfl) (fun _ _ _ h => h) (Or.inl ⟨by rfl, ?_⟩) hHeld ?_ ?_
      rotate_left
      · (intro w hSw; (try dsimp only at hSw); go_simp; (try with_reducible rfl))
      rotate_left
      · simp only [Act.put, List.setIfInBounds_toArray, List.set_cons_zero, List.set_cons_succ]
        rfl
      refine take1_ (i := 3) (v := ?_) (a' := ?_) (some 62) #[true, true, true, true, false, false, false, false] rfl rfl (by kernel_rfl) (fun _ _ _ h => h) (Or.inl ⟨by rfl, ?_⟩) hHeld ?_ ?_
      rotate_left
      · (intro w hSw; (try dsimp only at hSw); go_simp; (try with_reducible rfl))
      rotate_left
      · simp only [Act.put, List.setIfInBounds_toArray, List.set_cons_zero, List.set_cons_succ]
        rfl
      refine take1_ (i := 4) (v := ?_) (a' := ?_) (some 63) #[true, true, true, true, true, false, false, false] rfl rfl (by kernel_rfl) (fun _ _ _ h => h) (Or.inl ⟨by rfl, ?_⟩) hHeld ?_ ?_
      rotate_left
      · (intro w hSw; (try dsimp only at hSw); go_simp; (try with_reducible rfl))
      rotate_left
      · simp only [Act.put, List.setIfInBounds_toArray, List.set_cons_zero, List.set_cons_succ]
        rfl
      refine take1_ (i := 5) (v := ?_) (a' := ?_) (some 64) #[true, true, true, true, true, true, false, false] rfl rfl (by kernel_rfl) (fun _ _ _ h => h) (Or.inl ⟨by rfl, ?_⟩) hHeld ?_ ?_
      rotate_left
      · (intro w hSw; (try dsimp only at hSw); go_simp; (try with_reducible rfl))
      rotate_left
      · simp only [Act.put, List.setIfInBounds_toArray, List.set_cons_zero, List.set_cons_succ]
        rfl
      refine take1_ (i := 6) (v := ?_) (a' := ?_) (some 65) #[true, true, true, true, true, true, true, false] rfl rfl (by kernel_rfl) (fun _ _ _ h => h) (Or.inl ⟨by rfl, ?_⟩) hHeld ?_ ?_
      rotate_left
      · (intro w hSw; (try dsimp only at hSw); go_simp; (try with_reducible rfl))
      rotate_left
      · simp only [Act.put, List.setIfInBounds_toArray, List.set_cons_zero, List.set_cons_succ]
        rfl
      refine loud1_ (i := 7) (some 66) #[true, true, true, true, true, true, true, true] rfl rfl (by kernel_rfl) (fun K hK => ?_)
      go_simp
      (go_at_call 185; refine HN.out.mono ?_; rintro e w11 ⟨rfl, hct⟩; have HCn := Lib.hid (HD.out.next hct); clear hct)
      refine hK.out _ _ (by trivial) (fun hHeld' => ?_)
      clear hK K hHeld
      have hHeld := hHeld'
      clear hHeld'
      try simp only [Act.put, List.setIfInBounds_toArray, List.set_cons_zero, List.set_cons_succ]
      refine wpAnyH_done (by kernel_rfl) ?_ _
      clear hHeld HN HD HC10
      have HC11 : Hid (CrPass w g v l 51 (decide (l.length < 51)) pb (inoF (rN l 0 2) (rN l 2 4) (rN l 6 1) (rN l 7 4) (rN l 11 4) (rds l 8) (rN l 47 4) 0).toArray T w11) := Lib.hid (by
        have := HCn.out
        rw [bad_next l 47 4 (by decide), inoF_set6 _ _ _ _ _ _ _ _ _ (rds_len l 8 (by omega))] at this
        exact this)
      clear HCn
      go_upto_region 11 with fail
      have HD := Lib.hid HC11.out.drew
      have HN := Lib.hid (cr_int 4 pb 14 _ T 0 HD.out.form (by decide) (by omega) hl HD.out.cell (inoF_get6 _ _ _ _ _ _ _ _ (rds_len l 8 (by omega))).2 hpg hv)
      refine wp_region_held_drew (S := (fun w' => True)) (by kernel_rfl) (by trivial) (fun hHeld => ?_)
      refine take1_ (i := 0) (v := ?_) (a' := ?_) (some 67) #[true, false, false, false, false, false, false, false] rfl rfl (by kernel_rfl) (fun _ _ _ h => h) (Or.inl ⟨by rfl, ?_⟩) hHeld ?_ ?_
      rotate_left
      · (intro w hSw; (try dsimp only at hSw); go_simp; (try with_reducible rfl))
      rotate_left
      · simp only [Act.put, List.setIfInBounds_toArray, List.set_cons_zero, List.set_cons_succ]
        rfl
      refine take1_ (i := 1) (v := ?_) (a' := ?_) (some 68) #[true, true, false, false, false, false, false, false] rfl rfl (by kernel_rfl) (fun _ _ _ h => h) (Or.inl ⟨by rfl, ?_⟩) hHeld ?_ ?_
      rotate_left
      · (intro w hSw; (try dsimp only at hSw); go_simp; (try with_reducible rfl))
      rotate_left
      · simp only [Act.put, List.setIfInBounds_toArray, List.set_cons_zero, List.set_cons_succ]
        rfl
      refine take1_ (i := 2) (v := ?_) (a' := ?_) (some 69) #[true, true, true, false, false, false, false, false] rfl rfl (by kernel_rfl) (fun _ _ _ h => h) (Or.inl ⟨by rfl, ?_⟩) hHeld ?_ ?_
      rotate_left
      · (intro w hSw; (try dsimp only at hSw); go_simp; (try with_reducible rfl))
      rotate_left
      · simp only [Act.put, List.setIfInBounds_toArray, List.set_cons_zero, List.set_cons_succ]
        rfl
      refine take1_ (i := 3) (v := ?_) (a' := ?_) (some 70) #[true, true, true, true, false, false, false, false] rfl rfl (by kernel_rfl) (fun _ _ _ h => h) (Or.inl ⟨by rfl, ?_⟩) hHeld ?_ ?_
      rotate_left
      · (intro w hSw; (try dsimp only at hSw); go_simp; (try with_reducible rfl))
      rotate_left
      · simp only [Act.put, List.setIfInBounds_toArray, List.set_cons_zero, List.set_cons_succ]
        rfl
      refine take1_ (i := 4) (v := ?_) (a' := ?_) (some 71) #[true, true, true, true, true, false, false, false] rfl rfl (by kernel_rfl) (fun _ _ _ h => h) (Or.inl ⟨by rfl, ?_⟩) hHeld ?_ ?_
      rotate_left
      · (intro w hSw; (try dsimp only at hSw); go_simp; (try with_reducible rfl))
      rotate_left
      · simp only [Act.put, List.setIfInBounds_toArray, List.set_cons_zero, List.set_cons_succ]
        rfl
      refine take1_ (i := 5) (v := ?_) (a' := ?_) (some 72) #[true, true, true, true, true, true, false, false] rfl rfl (by kernel_rfl) (fun _ _ _ h => h) (Or.inl ⟨by rfl, ?_⟩) hHeld ?_ ?_
      rotate_left
      · (intro w hSw; (try dsimp only at hSw); go_simp; (try with_reducible rfl))
      rotate_left
      · simp only [Act.put, List.setIfInBounds_toArray, List.set_cons_zero, List.set_cons_succ]
        rfl
      refine take1_ (i := 6) (v := ?_) (a' := ?_) (some 73) #[true, true, true, true, true, true, true, false] rfl rfl (by kernel_rfl) (fun _ _ _ h => h) (Or.inl ⟨by rfl, ?_⟩) hHeld ?_ ?_
      rotate_left
      · (intro w hSw; (try dsimp only at hSw); go_simp; (try with_reducible rfl))
      rotate_left
      · simp only [Act.put, List.setIfInBounds_toArray, List.set_cons_zero, List.set_cons_succ]
        rfl
      refine loud1_ (i := 7) (some 74) #[true, true, true, true, true, true, true, true] rfl rfl (by kernel_rfl) (fun K hK => ?_)
      go_simp
      (go_at_call 185; refine HN.out.mono ?_; rintro e w12 ⟨rfl, hct⟩; have HCn := Lib.hid (HD.out.next hct); clear hct)
      refine hK.out _ _ (by trivial) (fun hHeld' => ?_)
      clear hK K hHeld
      have hHeld := hHeld'
      clear hHeld'
      try simp only [Act.put, List.setIfInBounds_toArray, List.set_cons_zero, List.set_cons_succ]
      refine wpAnyH_done (by kernel_rfl) ?_ _
      clear hHeld HN HD HC11
      have HC12 : Hid (CrPass w g v l 55 (decide (l.length < 55)) pb (rino l).cells.toArray T w12) := Lib.hid (by
        have := HCn.out
        rw [bad_next l 51 4 (by decide), inoF_set7 _ _ _ _ _ _ _ _ _ (rds_len l 8 (by omega))] at this
        exact this)
      clear HCn
      go_wp2
      go_end0
      exact ⟨rfl, HC12.out⟩
end
end Go.Proofs.Ytcpfafmkhegckaa
