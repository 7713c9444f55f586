/-
  Codec: the pass of an inode, when it reads.
-/
import Derived.Test.YtlcbfpcabalgcaaCodF
namespace Go.Proofs.Ytlcbfpcabalgcaa
open Go.RowKit
set_option linter.unusedVariables false
set_option linter.unusedSimpArgs false
set_option linter.unnecessarySimpa false
theorem rOk_eq (l : List UInt8) (a k : Nat) (hk : 1 ≤ k ∧ k ≤ 8) : rOk l a k = decide (a + k ≤ l.length) := by
  unfold rOk fitsB
  rw [decide_eq_decide]
  omega
theorem bad_next (l : List UInt8) (a k : Nat) (hk : 1 ≤ k ∧ k ≤ 8) : (decide (l.length < a) || !rOk l a k) = decide (l.length < a + k) := by
  rw [rOk_eq l a k hk]
  by_cases h : l.length < a
  · simp [h]; omega
  · by_cases h2 : a + k ≤ l.length
    · simp [h2]; omega
    · simp [h2]; omega
def rds (l : List UInt8) (k : Nat) : List Int := (List.range k).map (fun i => (rN l (15 + 4 * i) 4 : Int)) ++ List.replicate (8 - k) 0
theorem rds_len (l : List UInt8) (k : Nat) (h : k ≤ 8) : (rds l k).length = 8 := by unfold rds; simp; omega
theorem rds_next (l : List UInt8) (k : Nat) (h : k < 8) : (rds l k).set k (rN l (15 + 4 * k) 4 : Int) = rds l (k + 1) := by
  unfold rds
  rw [List.set_append, if_neg (by simp), List.length_map, List.length_range, Nat.sub_self, show 8 - k = (8 - (k + 1)) + 1 from by omega, List.replicate_succ, List.set_cons_zero, List.range_succ, List.map_append]
  simp
def rino (l : List UInt8) : Ino := ⟨rN l 0 2, rN l 2 4, (rN l 6 1 : Int), (rN l 7 4 : Int), rN l 11 4, rds l 8, (rN l 47 4 : Int), (rN l 51 4 : Int)⟩
theorem inoF_len (a b : Nat) (c d : Int) (e : Nat) (ds : List Int) (s t : Int) : (inoF a b c d e ds s t).length = ds.length + 7 := by simp [inoF]
theorem inoF_set5 (a b : Nat) (c d : Int) (e : Nat) (ds : List Int) (s t v : Int) (k : Nat) (h : k < ds.length) : (inoF a b c d e ds s t).toArray.setIfInBounds (5 + k) (.int .i64 v) = (inoF a b c d e (ds.set k v) s t).toArray := by
  rw [List.setIfInBounds_toArray]
  unfold inoF
  rw [show 5 + k = k + 1 + 1 + 1 + 1 + 1 from by omega]
  simp only [List.set_cons_succ]
  rw [List.set_append_left (h := by simpa using h), List.map_set]
theorem inoF_set6 (a b : Nat) (c d : Int) (e : Nat) (ds : List Int) (s t v : Int) (h : ds.length = 8) : (inoF a b c d e ds s t).toArray.setIfInBounds 13 (.int .i64 v) = (inoF a b c d e ds v t).toArray := by
  rw [List.setIfInBounds_toArray]
  unfold inoF
  simp only [List.set_cons_succ]
  rw [List.set_append, if_neg (by simp [h])]
  simp [h]
theorem inoF_set7 (a b : Nat) (c d : Int) (e : Nat) (ds : List Int) (s t v : Int) (h : ds.length = 8) : (inoF a b c d e ds s t).toArray.setIfInBounds 14 (.int .i64 v) = (inoF a b c d e ds s v).toArray := by
  rw [List.setIfInBounds_toArray]
  unfold inoF
  simp only [List.set_cons_succ]
  rw [List.set_append, if_neg (by simp [h])]
  simp [h]
theorem inoF_get5 (a b : Nat) (c d : Int) (e : Nat) (ds : List Int) (s t : Int) (k : Nat) (h : k < ds.length) : (inoF a b c d e ds s t).toArray[5 + k]? = some (.int .i64 (ds.getD k 0)) := by
  rw [List.getElem?_toArray]
  unfold inoF
  rw [show 5 + k = k + 1 + 1 + 1 + 1 + 1 from by omega]
  simp only [List.getElem?_cons_succ]
  rw [List.getElem?_append_left (by simpa using h)]
  simp [List.getD_eq_getElem?_getD, h]
theorem inoF_get6 (a b : Nat) (c d : Int) (e : Nat) (ds : List Int) (s t : Int) (h : ds.length = 8) : (inoF a b c d e ds s t).toArray[13]? = some (.int .i64 s) ∧ (inoF a b c d e ds s t).toArray[14]? = some (.int .i64 t) := by
  rw [List.getElem?_toArray, List.getElem?_toArray]
  unfold inoF
  simp only [List.getElem?_cons_succ]
  constructor
  · rw [List.getElem?_append_right (by simp [h])]; simp [h]
  · rw [List.getElem?_append_right (by simp [h])]; simp [h]
section
variable {w : World} {g : Nat} {v : Value} {l : List UInt8}
set_option maxRecDepth 10000 in
set_option maxHeartbeats 8000000 in
theorem pr_inode (pb : Nat) (T : TypeId) (h : CrAt w g v l 0 false) (hl : l.length ≤ 1000) (hb : w.heap[pb]? = some (.cells (inoF 0 0 0 0 0 (rds l 0) 0 0).toArray T (0, 0))) (hpg : pb ≠ g) (hv : Apart (· = pb) v l) :
    Calls Try.prog 46 #[rV g, .pointer (some ⟨pb, 0, none⟩)] w fun e w' => e = .returned (.tuple #[]) ∧ CrPass w g v l 55 (decide (l.length < 55)) pb (rino l).cells.toArray T w' := by
  have HC0 := Lib.hid (CrPass.mk h hb (Keep.refl _ w))
  clear h hb
  have na_word := fun W => na_r ⟨g, 0, none⟩ W "drumlin/codec.word" (by simp)
  have mt_word := fun W => mr_word ⟨g, 0, none⟩ W
  have na_int := fun W => na_r ⟨g, 0, none⟩ W "drumlin/codec.int" (by simp)
  have mt_int := fun W => mr_int ⟨g, 0, none⟩ W
  unfold rV
  go_enter Try.func46, Try.ntmps46
  go_upto_region 0 with fail
  have HD := Lib.hid HC0.out.drew
  have HN := Lib.hid (cr_word 2 pb 0 _ T 0 HD.out.form (by decide) (by omega) hl HD.out.cell (by simp [inoF]) hpg hv)
  refine wp_region_held_drew (S := (fun w' => True)) (by kernel_rfl) (by trivial) (fun hHeld => ?_)
  refine take1_ (i := 0) (v := ?_) (a' := ?_) (some 5) #[true, false, false, false, false, false, false, false] rfl rfl (by kernel_rfl) (fun _ _ _ h => h) (Or.inl ⟨by rfl, ?_⟩) hHeld ?_ ?_
  rotate_left
  · (intro w hSw; (try dsimp only at hSw); go_simp; (try with_reducible rfl))
  rotate_left
  · simp only [Act.put, List.setIfInBounds_toArray, List.set_cons_zero, List.set_cons_succ]
    rfl
  refine take1_ (i := 1) (v := ?_) (a' := ?_) (some 6) #[true, true, false, false, false, false, false, false] rfl rfl (by kernel_rfl) (fun _ _ _ h => h) (Or.inl ⟨by rfl, ?_⟩) hHeld ?_ ?_
  rotate_left
  · (intro w hSw; (try dsimp only at hSw); go_simp; (try with_reducible rfl))
  rotate_left
  · simp only [Act.put, List.setIfInBounds_toArray, List.set_cons_zero, List.set_cons_succ]
    rfl
  refine take1_ (i := 2) (v := ?_) (a' := ?_) (some 7) #[true, true, true, false, false, false, false, false] rfl rfl (by kernel_rfl) (fun _ _ _ h => h) (Or.inl ⟨by rfl, ?_⟩) hHeld ?_ ?_
  rotate_left
  · (intro w hSw; (try dsimp only at hSw); go_simp; (try with_reducible rfl))
  rotate_left
  · simp only [Act.put, List.setIfInBounds_toArray, List.set_cons_zero, List.set_cons_succ]
    rfl
  refine take1_ (i := 3) (v := ?_) (a' := ?_) (some 8) #[true, true, true, true, false, false, false, false] rfl rfl (by kernel_rfl) (fun _ _ _ h => h) (Or.inl ⟨by rfl, ?_⟩) hHeld ?_ ?_
  rotate_left
  · (intro w hSw; (try dsimp only at hSw); go_simp; (try with_reducible rfl))
  rotate_left
  · simp only [Act.put, List.setIfInBounds_toArray, List.set_cons_zero, List.set_cons_succ]
    rfl
  refine take1_ (i := 4) (v := ?_) (a' := ?_) (some 9) #[true, true, true, true, true, false, false, false] rfl rfl (by kernel_rfl) (fun _ _ _ h => h) (Or.inl ⟨by rfl, ?_⟩) hHeld ?_ ?_
  rotate_left
  · (intro w hSw; (try dsimp only at hSw); go_simp; (try with_reducible rfl))
  rotate_left
  · simp only [Act.put, List.setIfInBounds_toArray, List.set_cons_zero, List.set_cons_succ]
    rfl
  refine take1_ (i := 5) (v := ?_) (a' := ?_) (some 10) #[true, true, true, true, true, true, false, false] rfl rfl (by kernel_rfl) (fun _ _ _ h => h) (Or.inl ⟨by rfl, ?_⟩) hHeld ?_ ?_
  rotate_left
  · (intro w hSw; (try dsimp only at hSw); go_simp; (try with_reducible rfl))
  rotate_left
  · simp only [Act.put, List.setIfInBounds_toArray, List.set_cons_zero, List.set_cons_succ]
    rfl
  refine take1_ (i := 6) (v := ?_) (a' := ?_) (some 11) #[true, true, true, true, true, true, true, false] rfl rfl (by kernel_rfl) (fun _ _ _ h => h) (Or.inl ⟨by rfl, ?_⟩) hHeld ?_ ?_
  rotate_left
  · (intro w hSw; (try dsimp only at hSw); go_simp; (try with_reducible rfl))
  rotate_left
  · simp only [Act.put, List.setIfInBounds_toArray, List.set_cons_zero, List.set_cons_succ]
    rfl
  refine loud1_ (i := 7) (some 12) #[true, true, true, true, true, true, true, true] rfl rfl (by kernel_rfl) (fun K hK => ?_)
  go_simp
  (go_at_call 135; refine HN.out.mono ?_; rintro e w1 ⟨rfl, hct⟩; have HCn := Lib.hid (HD.out.next hct); clear hct)
  refine hK.out _ _ (by trivial) (fun hHeld' => ?_)
  clear hK K hHeld
  have hHeld := hHeld'
  clear hHeld'
  try simp only [Act.put, List.setIfInBounds_toArray, List.set_cons_zero, List.set_cons_succ]
  refine wpAnyH_done (by kernel_rfl) ?_ _
  clear hHeld HN HD HC0
  have HC1 : Hid (CrPass w g v l 2 (decide (l.length < 2)) pb (inoF (rN l 0 2) 0 0 0 0 (rds l 0) 0 0).toArray T w1) := Lib.hid (by
    have := HCn.out
    rw [show (false || !rOk l 0 2) = decide (l.length < 0 + 2) from bad_next l 0 2 (by decide)] at this
    simpa [inoF] using this)
  clear HCn
  go_upto_region 1 with fail
  have HD := Lib.hid HC1.out.drew
  have HN := Lib.hid (cr_word 4 pb 1 _ T 0 HD.out.form (by decide) (by omega) hl HD.out.cell (by simp [inoF]) hpg hv)
  refine wp_region_held_drew (S := (fun w' => True)) (by kernel_rfl) (by trivial) (fun hHeld => ?_)
  refine take1_ (i := 0) (v := ?_) (a' := ?_) (some 13) #[true, false, false, false, false, false, false, false] rfl rfl (by kernel_rfl) (fun _ _ _ h => h) (Or.inl ⟨by rfl, ?_⟩) hHeld ?_ ?_
  rotate_left
  · (intro w hSw; (try dsimp only at hSw); go_simp; (try with_reducible rfl))
  rotate_left
  · simp only [Act.put, List.setIfInBounds_toArray, List.set_cons_zero, List.set_cons_succ]
    rfl
  refine take1_ (i := 1) (v := ?_) (a' := ?_) (some 14) #[true, true, false, false, false, false, false, false] rfl rfl (by kernel_rfl) (fun _ _ _ h => h) (Or.inl ⟨by rfl, ?_⟩) hHeld ?_ ?_
  rotate_left
  · (intro w hSw; (try dsimp only at hSw); go_simp; (try with_reducible rfl))
  rotate_left
  · simp only [Act.put, List.setIfInBounds_toArray, List.set_cons_zero, List.set_cons_succ]
    rfl
  refine take1_ (i := 2) (v := ?_) (a' := ?_) (some 15) #[true, true, true, false, false, false, false, false] rfl rfl (by kernel_rfl) (fun _ _ _ h => h) (Or.inl ⟨by rfl, ?_⟩) hHeld ?_ ?_
  rotate_left
  · (intro w hSw; (try dsimp only at hSw); go_simp; (try with_reducible rfl))
  rotate_left
  · simp only [Act.put, List.setIfInBounds_toArray, List.set_cons_zero, List.set_cons_succ]
    rfl
  refine take1_ (i := 3) (v := ?_) (a' := ?_) (some 16) #[true, true, true, true, false, false, false, false] rfl rfl (by kernel_rfl) (fun _ _ _ h => h) (Or.inl ⟨by rfl, ?_⟩) hHeld ?_ ?_
  rotate_left
  · (intro w hSw; (try dsimp only at hSw); go_simp; (try with_reducible rfl))
  rotate_left
  · simp only [Act.put, List.setIfInBounds_toArray, List.set_cons_zero, List.set_cons_succ]
    rfl
  refine take1_ (i := 4) (v := ?_) (a' := ?_) (some 17) #[true, true, true, true, true, false, false, false] rfl rfl (by kernel_rfl) (fun _ _ _ h => h) (Or.inl ⟨by rfl, ?_⟩) hHeld ?_ ?_
  rotate_left
  · (intro w hSw; (try dsimp only at hSw); go_simp; (try with_reducible rfl))
  rotate_left
  · simp only [Act.put, List.setIfInBounds_toArray, List.set_cons_zero, List.set_cons_succ]
    rfl
  refine take1_ (i := 5) (v := ?_) (a' := ?_) (some 18) #[true, true, true, true, true, true, false, false] rfl rfl (by kernel_rfl) (fun _ _ _ h => h) (Or.inl ⟨by rfl, ?_⟩) hHeld ?_ ?_
  rotate_left
  · (intro w hSw; (try dsimp only at hSw); go_simp; (try with_reducible rfl))
  rotate_left
  · simp only [Act.put, List.setIfInBounds_toArray, List.set_cons_zero, List.set_cons_succ]
    rfl
  refine take1_ (i := 6) (v := ?_) (a' := ?_) (some 19) #[true, true, true, true, true, true, true, false] rfl rfl (by kernel_rfl) (fun _ _ _ h => h) (Or.inl ⟨by rfl, ?_⟩) hHeld ?_ ?_
  rotate_left
  · (intro w hSw; (try dsimp only at hSw); go_simp; (try with_reducible rfl))
  rotate_left
  · simp only [Act.put, List.setIfInBounds_toArray, List.set_cons_zero, List.set_cons_succ]
    rfl
  refine loud1_ (i := 7) (some 20) #[true, true, true, true, true, true, true, true] rfl rfl (by kernel_rfl) (fun K hK => ?_)
  go_simp
  (go_at_call 135; refine HN.out.mono ?_; rintro e w2 ⟨rfl, hct⟩; have HCn := Lib.hid (HD.out.next hct); clear hct)
  refine hK.out _ _ (by trivial) (fun hHeld' => ?_)
  clear hK K hHeld
  have hHeld := hHeld'
  clear hHeld'
  try simp only [Act.put, List.setIfInBounds_toArray, List.set_cons_zero, List.set_cons_succ]
  refine wpAnyH_done (by kernel_rfl) ?_ _
  clear hHeld HN HD HC1
  have HC2 : Hid (CrPass w g v l 6 (decide (l.length < 6)) pb (inoF (rN l 0 2) (rN l 2 4) 0 0 0 (rds l 0) 0 0).toArray T w2) := Lib.hid (by
    have := HCn.out
    rw [bad_next l 2 4 (by decide)] at this
    simpa [inoF] using this)
  clear HCn
  go_upto_region 2 with fail
  have HD := Lib.hid HC2.out.drew
  have HN := Lib.hid (cr_int 1 pb 2 _ T 0 HD.out.form (by decide) (by omega) hl HD.out.cell (by simp [inoF]) hpg hv)
  refine wp_region_held_drew (S := (fun w' => True)) (by kernel_rfl) (by trivial) (fun hHeld => ?_)
  refine take1_ (i := 0) (v := ?_) (a' := ?_) (some 21) #[true, false, false, false, false, false, false, false] rfl rfl (by kernel_rfl) (fun _ _ _ h => h) (Or.inl ⟨by rfl, ?_⟩) hHeld ?_ ?_
  rotate_left
  · (intro w hSw; (try dsimp only at hSw); go_simp; (try with_reducible rfl))
  rotate_left
  · simp only [Act.put, List.setIfInBounds_toArray, List.set_cons_zero, List.set_cons_succ]
    rfl
  refine take1_ (i := 1) (v := ?_) (a' := ?_) (some 22) #[true, true, false, false, false, false, false, false] rfl rfl (by kernel_rfl) (fun _ _ _ h => h) (Or.inl ⟨by rfl, ?_⟩) hHeld ?_ ?_
  rotate_left
  · (intro w hSw; (try dsimp only at hSw); go_simp; (try with_reducible rfl))
  rotate_left
  · simp only [Act.put, List.setIfInBounds_toArray, List.set_cons_zero, List.set_cons_succ]
    rfl
  refine take1_ (i := 2) (v := ?_) (a' := ?_) (some 23) #[true, true, true, false, false, false, false, false] rfl rfl (by kernel_rfl) (fun _ _ _ h => h) (Or.inl ⟨by rfl, ?_⟩) hHeld ?_ ?_
  rotate_left
  · (intro w hSw; (try dsimp only at hSw); go_simp; (try with_reducible rfl))
  rotate_left
  · simp only [Act.put, List.setIfInBounds_toArray, List.set_cons_zero, List.set_cons_succ]
    rfl
  refine take1_ (i := 3) (v := ?_) (a' := ?_) (some 24) #[true, true, true, true, false, false, false, false] rfl rfl (by kernel_rfl) (fun _ _ _ h => h) (Or.inl ⟨by rfl, ?_⟩) hHeld ?_ ?_
  rotate_left
  · (intro w hSw; (try dsimp only at hSw); go_simp; (try with_reducible rfl))
  rotate_left
  · simp only [Act.put, List.setIfInBounds_toArray, List.set_cons_zero, List.set_cons_succ]
    rfl
  refine take1_ (i := 4) (v := ?_) (a' := ?_) (some 25) #[true, true, true, true, true, false, false, false] rfl rfl (by kernel_rfl) (fun _ _ _ h => h) (Or.inl ⟨by rfl, ?_⟩) hHeld ?_ ?_
  rotate_left
  · (intro w hSw; (try dsimp only at hSw); go_simp; (try with_reducible rfl))
  rotate_left
  · simp only [Act.put, List.setIfInBounds_toArray, List.set_cons_zero, List.set_cons_succ]
    rfl
  refine take1_ (i := 5) (v := ?_) (a' := ?_) (some 26) #[true, true, true, true, true, true, false, false] rfl rfl (by kernel_rfl) (fun _ _ _ h => h) (Or.inl ⟨by rfl, ?_⟩) hHeld ?_ ?_
  rotate_left
  · (intro w hSw; (try dsimp only at hSw); go_simp; (try with_reducible rfl))
  rotate_left
  · simp only [Act.put, List.setIfInBounds_toArray, List.set_cons_zero, List.set_cons_succ]
    rfl
  refine take1_ (i := 6) (v := ?_) (a' := ?_) (some 27) #[true, true, true, true, true, true, true, false] rfl rfl (by kernel_rfl) (fun _ _ _ h => h) (Or.inl ⟨by rfl, ?_⟩) hHeld ?_ ?_
  rotate_left
  · (intro w hSw; (try dsimp only at hSw); go_simp; (try with_reducible rfl))
  rotate_left
  · simp only [Act.put, List.setIfInBounds_toArray, List.set_cons_zero, List.set_cons_succ]
    rfl
  refine loud1_ (i := 7) (some 28) #[true, true, true, true, true, true, true, true] rfl rfl (by kernel_rfl) (fun K hK => ?_)
  go_simp
  (go_at_call 132; refine HN.out.mono ?_; rintro e w3 ⟨rfl, hct⟩; have HCn := Lib.hid (HD.out.next hct); clear hct)
  refine hK.out _ _ (by trivial) (fun hHeld' => ?_)
  clear hK K hHeld
  have hHeld := hHeld'
  clear hHeld'
  try simp only [Act.put, List.setIfInBounds_toArray, List.set_cons_zero, List.set_cons_succ]
  refine wpAnyH_done (by kernel_rfl) ?_ _
  clear hHeld HN HD HC2
  have HC3 : Hid (CrPass w g v l 7 (decide (l.length < 7)) pb (inoF (rN l 0 2) (rN l 2 4) (rN l 6 1) 0 0 (rds l 0) 0 0).toArray T w3) := Lib.hid (by
    have := HCn.out
    rw [bad_next l 6 1 (by decide)] at this
    simpa [inoF] using this)
  clear HCn
  go_upto_region 3 with fail
  have HD := Lib.hid HC3.out.drew
  have HN := Lib.hid (cr_int 4 pb 3 _ T 0 HD.out.form (by decide) (by omega) hl HD.out.cell (by simp [inoF]) hpg hv)
  refine wp_region_held_drew (S := (fun w' => True)) (by kernel_rfl) (by trivial) (fun hHeld => ?_)
  refine take1_ (i := 0) (v := ?_) (a' := ?_) (some 29) #[true, false, false, false, false, false, false, false] rfl rfl (by kernel_rfl) (fun _ _ _ h => h) (Or.inl ⟨by rfl, ?_⟩) hHeld ?_ ?_
  rotate_left
  · (intro w hSw; (try dsimp only at hSw); go_simp; (try with_reducible rfl))
  rotate_left
  · simp only [Act.put, List.setIfInBounds_toArray, List.set_cons_zero, List.set_cons_succ]
    rfl
  refine take1_ (i := 1) (v := ?_) (a' := ?_) (some 30) #[true, true, false, false, false, false, false, false] rfl rfl (by kernel_rfl) (fun _ _ _ h => h) (Or.inl ⟨by rfl, ?_⟩) hHeld ?_ ?_
  rotate_left
  · (intro w hSw; (try dsimp only at hSw); go_simp; (try with_reducible rfl))
  rotate_left
  · simp only [Act.put, List.setIfInBounds_toArray, List.set_cons_zero, List.set_cons_succ]
    rfl
  refine take1_ (i := 2) (v := ?_) (a' := ?_) (some 31) #[true, true, true, false, false, false, false, false] rfl rfl (by kernel_rfl) (fun _ _ _ h => h) (Or.inl ⟨by rfl, ?_⟩) hHeld ?_ ?_
  rotate_left
  · (intro w hSw; (try dsimp only at hSw); go_simp; (try with_reducible rfl))
  rotate_left
  · simp only [Act.put, List.setIfInBounds_toArray, List.set_cons_zero, List.set_cons_succ]
    rfl
  refine take1_ (i := 3) (v := ?_) (a' := ?_) (some 32) #[true, true, true, true, false, false, false, false] rfl rfl (by kernel_rfl) (fun _ _ _ h => h) (Or.inl ⟨by rfl, ?_⟩) hHeld ?_ ?_
  rotate_left
  · (intro w hSw; (try dsimp only at hSw); go_simp; (try with_reducible rfl))
  rotate_left
  · simp only [Act.put, List.setIfInBounds_toArray, List.set_cons_zero, List.set_cons_succ]
    rfl
  refine take1_ (i := 4) (v := ?_) (a' := ?_) (some 33) #[true, true, true, true, true, false, false, false] rfl rfl (by kernel_rfl) (fun _ _ _ h => h) (Or.inl ⟨by rfl, ?_⟩) hHeld ?_ ?_
  rotate_left
  · (intro w hSw; (try dsimp only at hSw); go_simp; (try with_reducible rfl))
  rotate_left
  · simp only [Act.put, List.setIfInBounds_toArray, List.set_cons_zero, List.set_cons_succ]
    rfl
  refine take1_ (i := 5) (v := ?_) (a' := ?_) (some 34) #[true, true, true, true, true, true, false, false] rfl rfl (by kernel_rfl) (fun _ _ _ h => h) (Or.inl ⟨by rfl, ?_⟩) hHeld ?_ ?_
  rotate_left
  · (intro w hSw; (try dsimp only at hSw); go_simp; (try with_reducible rfl))
  rotate_left
  · simp only [Act.put, List.setIfInBounds_toArray, List.set_cons_zero, List.set_cons_succ]
    rfl
  refine take1_ (i := 6) (v := ?_) (a' := ?_) (some 35) #[true, true, true, true, true, true, true, false] rfl rfl (by kernel_rfl) (fun _ _ _ h => h) (Or.inl ⟨by rfl, ?_⟩) hHeld ?_ ?_
  rotate_left
  · (intro w hSw; (try dsimp only at hSw); go_simp; (try with_reducible rfl))
  rotate_left
  · simp only [Act.put, List.setIfInBounds_toArray, List.set_cons_zero, List.set_cons_succ]
    rfl
  refine loud1_ (i := 7) (some 36) #[true, true, true, true, true, true, true, true] rfl rfl (by kernel_rfl) (fun K hK => ?_)
  go_simp
  (go_at_call 132; refine HN.out.mono ?_; rintro e w4 ⟨rfl, hct⟩; have HCn := Lib.hid (HD.out.next hct); clear hct)
  refine hK.out _ _ (by trivial) (fun hHeld' => ?_)
  clear hK K hHeld
  have hHeld := hHeld'
  clear hHeld'
  try simp only [Act.put, List.setIfInBounds_toArray, List.set_cons_zero, List.set_cons_succ]
  refine wpAnyH_done (by kernel_rfl) ?_ _
  clear hHeld HN HD HC3
  have HC4 : Hid (CrPass w g v l 11 (decide (l.length < 11)) pb (inoF (rN l 0 2) (rN l 2 4) (rN l 6 1) (rN l 7 4) 0 (rds l 0) 0 0).toArray T w4) := Lib.hid (by
    have := HCn.out
    rw [bad_next l 7 4 (by decide)] at this
    simpa [inoF] using this)
  clear HCn
  go_upto_region 4 with fail
  have HD := Lib.hid HC4.out.drew
  have HN := Lib.hid (cr_word 4 pb 4 _ T 0 HD.out.form (by decide) (by omega) hl HD.out.cell (by simp [inoF]) hpg hv)
  refine wp_region_held_drew (S := (fun w' => True)) (by kernel_rfl) (by trivial) (fun hHeld => ?_)
  refine take1_ (i := 0) (v := ?_) (a' := ?_) (some 37) #[true, false, false, false, false, false, false, false] rfl rfl (by kernel_rfl) (fun _ _ _ h => h) (Or.inl ⟨by rfl, ?_⟩) hHeld ?_ ?_
  rotate_left
  · (intro w hSw; (try dsimp only at hSw); go_simp; (try with_reducible rfl))
  rotate_left
  · simp only [Act.put, List.setIfInBounds_toArray, List.set_cons_zero, List.set_cons_succ]
    rfl
  refine take1_ (i := 1) (v := ?_) (a' := ?_) (some 38) #[true, true, false, false, false, false, false, false] rfl rfl (by kernel_rfl) (fun _ _ _ h => h) (Or.inl ⟨by rfl, ?_⟩) hHeld ?_ ?_
  rotate_left
  · (intro w hSw; (try dsimp only at hSw); go_simp; (try with_reducible rfl))
  rotate_left
  · simp only [Act.put, List.setIfInBounds_toArray, List.set_cons_zero, List.set_cons_succ]
    rfl
  refine take1_ (i := 2) (v := ?_) (a' := ?_) (some 39) #[true, true, true, false, false, false, false, false] rfl rfl (by kernel_rfl) (fun _ _ _ h => h) (Or.inl ⟨by rfl, ?_⟩) hHeld ?_ ?_
  rotate_left
  · (intro w hSw; (try dsimp only at hSw); go_simp; (try with_reducible rfl))
  rotate_left
  · simp only [Act.put, List.setIfInBounds_toArray, List.set_cons_zero, List.set_cons_succ]
    rfl
  refine take1_ (i := 3) (v := ?_) (a' := ?_) (some 40) #[true, true, true, true, false, false, false, false] rfl rfl (by kernel_rfl) (fun _ _ _ h => h) (Or.inl ⟨by rfl, ?_⟩) hHeld ?_ ?_
  rotate_left
  · (intro w hSw; (try dsimp only at hSw); go_simp; (try with_reducible rfl))
  rotate_left
  · simp only [Act.put, List.setIfInBounds_toArray, List.set_cons_zero, List.set_cons_succ]
    rfl
  refine take1_ (i := 4) (v := ?_) (a' := ?_) (some 41) #[true, true, true, true, true, false, false, false] rfl rfl (by kernel_rfl) (fun _ _ _ h => h) (Or.inl ⟨by rfl, ?_⟩) hHeld ?_ ?_
  rotate_left
  · (intro w hSw; (try dsimp only at hSw); go_simp; (try with_reducible rfl))
  rotate_left
  · simp only [Act.put, List.setIfInBounds_toArray, List.set_cons_zero, List.set_cons_succ]
    rfl
  refine take1_ (i := 5) (v := ?_) (a' := ?_) (some 42) #[true, true, true, true, true, true, false, false] rfl rfl (by kernel_rfl) (fun _ _ _ h => h) (Or.inl ⟨by rfl, ?_⟩) hHeld ?_ ?_
  rotate_left
  · (intro w hSw; (try dsimp only at hSw); go_simp; (try with_reducible rfl))
  rotate_left
  · simp only [Act.put, List.setIfInBounds_toArray, List.set_cons_zero, List.set_cons_succ]
    rfl
  refine take1_ (i := 6) (v := ?_) (a' := ?_) (some 43) #[true, true, true, true, true, true, true, false] rfl rfl (by kernel_rfl) (fun _ _ _ h => h) (Or.inl ⟨by rfl, ?_⟩) hHeld ?_ ?_
  rotate_left
  · (intro w hSw; (try dsimp only at hSw); go_simp; (try with_reducible rfl))
  rotate_left
  · simp only [Act.put, List.setIfInBounds_toArray, List.set_cons_zero, List.set_cons_succ]
    rfl
  refine loud1_ (i := 7) (some 44) #[true, true, true, true, true, true, true, true] rfl rfl (by kernel_rfl) (fun K hK => ?_)
  go_simp
  (go_at_call 135; refine HN.out.mono ?_; rintro e w5 ⟨rfl, hct⟩; have HCn := Lib.hid (HD.out.next hct); clear hct)
  refine hK.out _ _ (by trivial) (fun hHeld' => ?_)
  clear hK K hHeld
  have hHeld := hHeld'
  clear hHeld'
  try simp only [Act.put, List.setIfInBounds_toArray, List.set_cons_zero, List.set_cons_succ]
  refine wpAnyH_done (by kernel_rfl) ?_ _
  clear hHeld HN HD HC4
  have HC5 : Hid (CrPass w g v l 15 (decide (l.length < 15)) pb (inoF (rN l 0 2) (rN l 2 4) (rN l 6 1) (rN l 7 4) (rN l 11 4) (rds l 0) 0 0).toArray T w5) := Lib.hid (by
    have := HCn.out
    rw [bad_next l 11 4 (by decide)] at this
    simpa [inoF] using this)
  clear HCn
  go_wp2
  go_loopw [45] (fun i wr => ∃ k : Nat, k ≤ 8 ∧ i = .int .i64 (k : Int) ∧ Hid (CrPass w g v l (15 + 4 * k) (decide (l.length < 15 + 4 * k)) pb (inoF (rN l 0 2) (rN l 2 4) (rN l 6 1) (rN l 7 4) (rN l 11 4) (rds l k) 0 0).toArray T wr)) (fun i _ => (8 - intOf i).toNat)
  case atStart => exact ⟨0, by omega, rfl, HC5⟩
  case round =>
    obtain ⟨k, hk, rfl, HCk⟩ := hrel
    clear HC5
    by_cases hlt : k < 8
    · have hkI : (k : Int) < 8 := by omega
      go_upto_region 8 with fail
      have HD := Lib.hid HCk.out.drew
      have HN := Lib.hid (cr_int 4 pb (5 + k) _ T ((rds l k).getD k 0) HD.out.form (by decide) (by omega) hl HD.out.cell (inoF_get5 _ _ _ _ _ _ _ _ k (by rw [rds_len l k hk]; exact hlt)) hpg hv)
      refine wp_region_held_drew (S := (fun w' => True)) (by kernel_rfl) (by trivial) (fun hHeld => ?_)
      refine take1_ (i := 0) (v := ?_) (a' := ?_) (some 48) #[true, false, false, false, false, false, false, false, false, false] rfl rfl (by kernel_rfl) (fun _ _ _ h => h) (Or.inl ⟨by rfl, ?_⟩) hHeld ?_ ?_
      rotate_left
      · (intro w hSw; (try dsimp only at hSw); go_simp; (try with_reducible rfl))
      rotate_left
      · simp only [Act.put, List.setIfInBounds_toArray, List.set_cons_zero, List.set_cons_succ]
        rfl
      refine take1_ (i := 1) (v := ?_) (a' := ?_) (some 49) #[true, true, false, false, false, false, false, false, false, false] rfl rfl (by kernel_rfl) (fun _ _ _ h => h) (Or.inl ⟨by rfl, ?_⟩) hHeld ?_ ?_
      rotate_left
      · (intro w hSw; (try dsimp only at hSw); go_simp; (try with_reducible rfl))
      rotate_left
      · simp only [Act.put, List.setIfInBounds_toArray, List.set_cons_zero, List.set_cons_succ]
        rfl
      refine take1_ (i := 2) (v := ?_) (a' := ?_) (some 50) #[true, true, true, false, false, false, false, false, false, false] rfl rfl (by kernel_rfl) (fun _ _ _ h => h) (Or.inl ⟨by rfl, ?_⟩) hHeld ?_ ?_
      rotate_left
      · (intro w hSw; (try dsimp only at hSw); go_simp; (try with_reducible rfl))
      rotate_left
      · simp only [Act.put, List.setIfInBounds_toArray, List.set_cons_zero, List.set_cons_succ]
        rfl
      refine take1_ (i := 3) (v := ?_) (a' := ?_) (some 51) #[true, true, true, true, false, false, false, false, false, false] rfl rfl (by kernel_rfl) (fun _ _ _ h => h) (Or.inl ⟨by rfl, ?_⟩) hHeld ?_ ?_
      rotate_left
      · (intro w hSw; (try dsimp only at hSw); go_simp; (try with_reducible rfl))
      rotate_left
      · simp only [Act.put, List.setIfInBounds_toArray, List.set_cons_zero, List.set_cons_succ]
        rfl
      refine take1_ (i := 4) (v := ?_) (a' := ?_) (some 52) #[true, true, true, true, true, false, false, false, false, false] rfl rfl (by kernel_rfl) (fun _ _ _ h => h) (Or.inl ⟨by rfl, ?_⟩) hHeld ?_ ?_
      rotate_left
      · (intro w hSw; (try dsimp only at hSw); go_simp; (try with_reducible rfl))
      rotate_left
      · simp only [Act.put, List.setIfInBounds_toArray, List.set_cons_zero, List.set_cons_succ]
        rfl
      refine take1_ (i := 5) (v := ?_) (a' := ?_) (some 53) #[true, true, true, true, true, true, false, false, false, false] rfl rfl (by kernel_rfl) (fun _ _ _ h => h) (Or.inl ⟨by rfl, ?_⟩) hHeld ?_ ?_
      rotate_left
      · (intro w hSw; (try dsimp only at hSw); go_simp; (try with_reducible rfl))
      rotate_left
      · simp only [Act.put, List.setIfInBounds_toArray, List.set_cons_zero, List.set_cons_succ]
        rfl
      refine take1_ (i := 6) (v := ?_) (a' := ?_) (some 54) #[true, true, true, true, true, true, true, false, false, false] rfl rfl (by kernel_rfl) (fun _ _ _ h => h) (Or.inl ⟨by rfl, ?_⟩) hHeld ?_ ?_
      rotate_left
      · (intro w hSw; (try dsimp only at hSw); go_simp; (try with_reducible rfl))
      rotate_left
      · simp only [Act.put, List.setIfInBounds_toArray, List.set_cons_zero, List.set_cons_succ]
        rfl
      refine take1_ (i := 7) (v := ?_) (a' := ?_) (some 55) #[true, true, true, true, true, true, true, true, false, false] rfl rfl (by kernel_rfl) (fun _ _ _ h => h) (Or.inl ⟨by rfl, ?_⟩) hHeld ?_ ?_
      rotate_left
      · (intro w hSw; (try dsimp only at hSw); go_simp; (try with_reducible rfl))
      rotate_left
      · simp only [Act.put, List.setIfInBounds_toArray, List.set_cons_zero, List.set_cons_succ]
        rfl
      refine take1_ (i := 8) (v := ?_) (a' := ?_) (some 56) #[true, true, true, true, true, true, true, true, true, false] rfl rfl (by kernel_rfl) (fun _ _ _ h => h) (Or.inl ⟨by rfl, ?_⟩) hHeld ?_ ?_
      rotate_left
      · (intro w hSw; (try dsimp only at hSw); go_simp; (try with_reducible rfl))
      rotate_left
      · simp only [Act.put, List.setIfInBounds_toArray, List.set_cons_zero, List.set_cons_succ]
        rfl
      refine loud1_ (i := 9) (some 57) #[true, true, true, true, true, true, true, true, true, true] rfl rfl (by kernel_rfl) (fun K hK => ?_)
      go_simp
      (go_at_call 132; refine HN.out.mono ?_; rintro e w9 ⟨rfl, hct⟩; have HCn := Lib.hid (HD.out.next hct); clear hct)
      refine hK.out _ _ (by trivial) (fun hHeld' => ?_)
      clear hK K hHeld
      have hHeld := hHeld'
      clear hHeld'
      try simp only [Act.put, List.setIfInBounds_toArray, List.set_cons_zero, List.set_cons_succ]
      refine wpAnyH_done (by kernel_rfl) ?_ _
      clear hHeld HN HD HCk
      have HC9 : Hid (CrPass w g v l (15 + 4 * (k + 1)) (decide (l.length < 15 + 4 * (k + 1))) pb (inoF (rN l 0 2) (rN l 2 4) (rN l 6 1) (rN l 7 4) (rN l 11 4) (rds l (k + 1)) 0 0).toArray T w9) := Lib.hid (by
        have := HCn.out
        rw [bad_next l (15 + 4 * k) 4 (by decide), inoF_set5 _ _ _ _ _ _ _ _ _ k (by rw [rds_len l k hk]; exact hlt), rds_next l k hlt] at this
        rw [show 15 + 4 * (k + 1) = 15 + 4 * k + 4 from by omega]
        exact this)
      clear HCn
      go_wp2
      go_roundw
      case rel => exact ⟨k + 1, by omega, by go_num, HC9⟩
      case measure => simp [intOf]; omega
    · obtain rfl : k = 8 := by omega
      have HC10 : Hid (CrPass w g v l 47 (decide (l.length < 47)) pb (inoF (rN l 0 2) (rN l 2 4) (rN l 6 1) (rN l 7 4) (rN l 11 4) (rds l 8) 0 0).toArray T wr) := HCk
      clear HCk
      go_upto_region 10 with fail
      have HD := Lib.hid HC10.out.drew
      have HN := Lib.hid (cr_int 4 pb 13 _ T 0 HD.out.form (by decide) (by omega) hl HD.out.cell (inoF_get6 _ _ _ _ _ _ _ _ (rds_len l 8 (by omega))).1 hpg hv)
      refine wp_region_held_drew (S := (fun w' => True)) (by kernel_rfl) (by trivial) (fun hHeld => ?_)
      refine take1_ (i := 0) (v := ?_) (a' := ?_) (some 59) #[true, false, false, false, false, false, false, false] rfl rfl (by kernel_rfl) (fun _ _ _ h => h) (Or.inl ⟨by rfl, ?_⟩) hHeld ?_ ?_
      rotate_left
      · (intro w hSw; (try dsimp only at hSw); go_simp; (try with_reducible rfl))
      rotate_left
      · simp only [Act.put, List.setIfInBounds_toArray, List.set_cons_zero, List.set_cons_succ]
        rfl
      refine take1_ (i := 1) (v := ?_) (a' := ?_) (some 60) #[true, true, false, false, false, false, false, false] rfl rfl (by kernel_rfl) (fun _ _ _ h => h) (Or.inl ⟨by rfl, ?_⟩) hHeld ?_ ?_
      rotate_left
      · (intro w hSw; (try dsimp only at hSw); go_simp; (try with_reducible rfl))
      rotate_left
      · simp only [Act.put, List.setIfInBounds_toArray, List.set_cons_zero, List.set_cons_succ]
        rfl
      refine take1_ (i := 2) (v := ?_) (a' := ?_) (some 61) #[true, true, true, false, false, false, false, false] rfl rfl (by kernel_rfl) (fun _ _ _ h => h) (Or.inl ⟨by rfl, ?_⟩) hHeld ?_ ?_
      rotate_left
      · (intro w hSw; (try dsimp only at hSw); go_simp; (try with_reducible rfl))
      rotate_left
      · simp only [Act.put, List.setIfInBounds_toArray, List.set_cons_zero, List.set_cons_succ]
        rfl
      refine take1_ (i := 3) (v := ?_) (a' := ?_) (some 62) #[true, true, true, true, false, false, false, false] rfl rfl (by kernel_rfl) (fun _ _ _ h => h) (Or.inl ⟨by rfl, ?_⟩) hHeld ?_ ?_
      rotate_left
      · (intro w hSw; (try dsimp only at hSw); go_simp; (try with_reducible rfl))
      rotate_left
      · simp only [Act.put, List.setIfInBounds_toArray, List.set_cons_zero, List.set_cons_succ]
        rfl
      refine take1_ (i := 4) (v := ?_) (a' := ?_) (some 63) #[true, true, true, true, true, false, false, false] rfl rfl (by kernel_rfl) (fun _ _ _ h => h) (Or.inl ⟨by rfl, ?_⟩) hHeld ?_ ?_
      rotate_left
      · (intro w hSw; (try dsimp only at hSw); go_simp; (try with_reducible rfl))
      rotate_left
      · simp only [Act.put, List.setIfInBounds_toArray, List.set_cons_zero, List.set_cons_succ]
        rfl
      refine take1_ (i := 5) (v := ?_) (a' := ?_) (some 64) #[true, true, true, true, true, true, false, false] rfl rfl (by kernel_rfl) (fun _ _ _ h => h) (Or.inl ⟨by rfl, ?_⟩) hHeld ?_ ?_
      rotate_left
      · (intro w hSw; (try dsimp only at hSw); go_simp; (try with_reducible rfl))
      rotate_left
      · simp only [Act.put, List.setIfInBounds_toArray, List.set_cons_zero, List.set_cons_succ]
        rfl
      refine take1_ (i := 6) (v := ?_) (a' := ?_) (some 65) #[true, true, true, true, true, true, true, false] rfl rfl (by kernel_rfl) (fun _ _ _ h => h) (Or.inl ⟨by rfl, ?_⟩) hHeld ?_ ?_
      rotate_left
      · (intro w hSw; (try dsimp only at hSw); go_simp; (try with_reducible rfl))
      rotate_left
      · simp only [Act.put, List.setIfInBounds_toArray, List.set_cons_zero, List.set_cons_succ]
        rfl
      refine loud1_ (i := 7) (some 66) #[true, true, true, true, true, true, true, true] rfl rfl (by kernel_rfl) (fun K hK => ?_)
      go_simp
      (go_at_call 132; refine HN.out.mono ?_; rintro e w11 ⟨rfl, hct⟩; have HCn := Lib.hid (HD.out.next hct); clear hct)
      refine hK.out _ _ (by trivial) (fun hHeld' => ?_)
      clear hK K hHeld
      have hHeld := hHeld'
      clear hHeld'
      try simp only [Act.put, List.setIfInBounds_toArray, List.set_cons_zero, List.set_cons_succ]
      refine wpAnyH_done (by kernel_rfl) ?_ _
      clear hHeld HN HD HC10
      have HC11 : Hid (CrPass w g v l 51 (decide (l.length < 51)) pb (inoF (rN l 0 2) (rN l 2 4) (rN l 6 1) (rN l 7 4) (rN l 11 4) (rds l 8) (rN l 47 4) 0).toArray T w11) := Lib.hid (by
        have := HCn.out
        rw [bad_next l 47 4 (by decide), inoF_set6 _ _ _ _ _ _ _ _ _ (rds_len l 8 (by omega))] at this
        exact this)
      clear HCn
      go_upto_region 11 with fail
      have HD := Lib.hid HC11.out.drew
      have HN := Lib.hid (cr_int 4 pb 14 _ T 0 HD.out.form (by decide) (by omega) hl HD.out.cell (inoF_get6 _ _ _ _ _ _ _ _ (rds_len l 8 (by omega))).2 hpg hv)
      refine wp_region_held_drew (S := (fun w' => True)) (by kernel_rfl) (by trivial) (fun hHeld => ?_)
      refine take1_ (i := 0) (v := ?_) (a' := ?_) (some 67) #[true, false, false, false, false, false, false, false] rfl rfl (by kernel_rfl) (fun _ _ _ h => h) (Or.inl ⟨by rfl, ?_⟩) hHeld ?_ ?_
      rotate_left
      · (intro w hSw; (try dsimp only at hSw); go_simp; (try with_reducible rfl))
      rotate_left
      · simp only [Act.put, List.setIfInBounds_toArray, List.set_cons_zero, List.set_cons_succ]
        rfl
      refine take1_ (i := 1) (v := ?_) (a' := ?_) (some 68) #[true, true, false, false, false, false, false, false] rfl rfl (by kernel_rfl) (fun _ _ _ h => h) (Or.inl ⟨by rfl, ?_⟩) hHeld ?_ ?_
      rotate_left
      · (intro w hSw; (try dsimp only at hSw); go_simp; (try with_reducible rfl))
      rotate_left
      · simp only [Act.put, List.setIfInBounds_toArray, List.set_cons_zero, List.set_cons_succ]
        rfl
      refine take1_ (i := 2) (v := ?_) (a' := ?_) (some 69) #[true, true, true, false, false, false, false, false] rfl rfl (by kernel_rfl) (fun _ _ _ h => h) (Or.inl ⟨by rfl, ?_⟩) hHeld ?_ ?_
      rotate_left
      · (intro w hSw; (try dsimp only at hSw); go_simp; (try with_reducible rfl))
      rotate_left
      · simp only [Act.put, List.setIfInBounds_toArray, List.set_cons_zero, List.set_cons_succ]
        rfl
      refine take1_ (i := 3) (v := ?_) (a' := ?_) (some 70) #[true, true, true, true, false, false, false, false] rfl rfl (by kernel_rfl) (fun _ _ _ h => h) (Or.inl ⟨by rfl, ?_⟩) hHeld ?_ ?_
      rotate_left
      · (intro w hSw; (try dsimp only at hSw); go_simp; (try with_reducible rfl))
      rotate_left
      · simp only [Act.put, List.setIfInBounds_toArray, List.set_cons_zero, List.set_cons_succ]
        rfl
      refine take1_ (i := 4) (v := ?_) (a' := ?_) (some 71) #[true, true, true, true, true, false, false, false] rfl rfl (by kernel_rfl) (fun _ _ _ h => h) (Or.inl ⟨by rfl, ?_⟩) hHeld ?_ ?_
      rotate_left
      · (intro w hSw; (try dsimp only at hSw); go_simp; (try with_reducible rfl))
      rotate_left
      · simp only [Act.put, List.setIfInBounds_toArray, List.set_cons_zero, List.set_cons_succ]
        rfl
      refine take1_ (i := 5) (v := ?_) (a' := ?_) (some 72) #[true, true, true, true, true, true, false, false] rfl rfl (by kernel_rfl) (fun _ _ _ h => h) (Or.inl ⟨by rfl, ?_⟩) hHeld ?_ ?_
      rotate_left
      · (intro w hSw; (try dsimp only at hSw); go_simp; (try with_reducible rfl))
      rotate_left
      · simp only [Act.put, List.setIfInBounds_toArray, List.set_cons_zero, List.set_cons_succ]
        rfl
      refine take1_ (i := 6) (v := ?_) (a' := ?_) (some 73) #[true, true, true, true, true, true, true, false] rfl rfl (by kernel_rfl) (fun _ _ _ h => h) (Or.inl ⟨by rfl, ?_⟩) hHeld ?_ ?_
      rotate_left
      · (intro w hSw; (try dsimp only at hSw); go_simp; (try with_reducible rfl))
      rotate_left
      · simp only [Act.put, List.setIfInBounds_toArray, List.set_cons_zero, List.set_cons_succ]
        rfl
      refine loud1_ (i := 7) (some 74) #[true, true, true, true, true, true, true, true] rfl rfl (by kernel_rfl) (fun K hK => ?_)
      go_simp
      (go_at_call 132; refine HN.out.mono ?_; rintro e w12 ⟨rfl, hct⟩; have HCn := Lib.hid (HD.out.next hct); clear hct)
      refine hK.out _ _ (by trivial) (fun hHeld' => ?_)
      clear hK K hHeld
      have hHeld := hHeld'
      clear hHeld'
      try simp only [Act.put, List.setIfInBounds_toArray, List.set_cons_zero, List.set_cons_succ]
      refine wpAnyH_done (by kernel_rfl) ?_ _
      clear hHeld HN HD HC11
      have HC12 : Hid (CrPass w g v l 55 (decide (l.length < 55)) pb (rino l).cells.toArray T w12) := Lib.hid (by
        have := HCn.out
        rw [bad_next l 51 4 (by decide), inoF_set7 _ _ _ _ _ _ _ _ _ (rds_len l 8 (by omega))] at this
        exact this)
      clear HCn
      go_wp2
      go_end0
      exact ⟨rfl, HC12.out⟩
end
end Go.Proofs.Ytlcbfpcabalgcaa
