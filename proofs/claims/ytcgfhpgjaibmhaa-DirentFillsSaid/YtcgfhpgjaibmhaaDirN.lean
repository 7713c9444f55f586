/-
  DirentReads: the walk.
-/
import Derived.Test.YtcgfhpgjaibmhaaDirM
import Derived.Test.YtcgfhpgjaibmhaaDirL
import Derived.Test.YtcgfhpgjaibmhaaReg
namespace Go.Proofs.Ytcgfhpgjaibmhaa
open Go.RowKit
set_option linter.unusedVariables false
set_option linter.unusedSimpArgs false
def At8 (p : Nat) (n0 n1 n2 n3 : Int) (t0 t1 t2 t3 : ByteArray) (w : World) : Prop := w.cell? ⟨p, 0, none⟩ = some (.int .i64 n0) ∧ w.cell? ⟨p, 1, none⟩ = some (.string t0) ∧ w.cell? ⟨p, 2, none⟩ = some (.int .i64 n1) ∧ w.cell? ⟨p, 3, none⟩ = some (.string t1) ∧ w.cell? ⟨p, 4, none⟩ = some (.int .i64 n2) ∧ w.cell? ⟨p, 5, none⟩ = some (.string t2) ∧ w.cell? ⟨p, 6, none⟩ = some (.int .i64 n3) ∧ w.cell? ⟨p, 7, none⟩ = some (.string t3)
theorem At8.below {p : Nat} {n0 n1 n2 n3 : Int} {t0 t1 t2 t3 : ByteArray} {w w' : World} (h : At8 p n0 n1 n2 n3 t0 t1 t2 t3 w) (hb : Below w.heap.size w w') : At8 p n0 n1 n2 n3 t0 t1 t2 t3 w' := by
  obtain ⟨h0, h1, h2, h3, h4, h5, h6, h7⟩ := h
  have k : ∀ {i : Nat} {v : Value}, w.cell? ⟨p, i, none⟩ = some v → w'.cell? ⟨p, i, none⟩ = some v := fun h => by rw [hb.cell (World.block_lt_of_cell? w _ h)]; exact h
  exact ⟨k h0, k h1, k h2, k h3, k h4, k h5, k h6, k h7⟩
theorem At8.row {w : World} {p : Nat} {t : TypeId} {f : Nat × Nat} {n0 n1 n2 n3 : Int} {t0 t1 t2 t3 : ByteArray} (hp : w.heap[p]? = some (.cells #[.int .i64 n0, .string t0, .int .i64 n1, .string t1, .int .i64 n2, .string t2, .int .i64 n3, .string t3] t f)) : At8 p n0 n1 n2 n3 t0 t1 t2 t3 w := by
  unfold At8
  simp only [cell_row hp]
  exact ⟨rfl, rfl, rfl, rfl, rfl, rfl, rfl, rfl⟩
def At16 (p q : Nat) (n0 n1 n2 n3 : Int) (t0 t1 t2 t3 : ByteArray) (w : World) : Prop := At8 p n0 n1 n2 n3 t0 t1 t2 t3 w ∧ At8 q n0 n1 n2 n3 t0 t1 t2 t3 w
theorem At16.below {p q : Nat} {n0 n1 n2 n3 : Int} {t0 t1 t2 t3 : ByteArray} {w w' : World} (h : At16 p q n0 n1 n2 n3 t0 t1 t2 t3 w) (hb : Below w.heap.size w w') : At16 p q n0 n1 n2 n3 t0 t1 t2 t3 w' := ⟨h.1.below hb, h.2.below hb⟩
theorem dr_form (l : List UInt8) : ∃ n0 n1 n2 n3 t0 t1 t2 t3, drV l = .agg #[.int .i64 n0, .string t0, .int .i64 n1, .string t1, .int .i64 n2, .string t2, .int .i64 n3, .string t3] ∧ drV l = entsV (n0, t0) (n1, t1) (n2, t2) (n3, t3) := ⟨_, _, _, _, _, _, _, _, rfl, rfl⟩
theorem drE_of (l : List UInt8) (b : Bool) (h : b = drB l) : drE l = if b then 0 else 21 := by rw [h]; rfl
set_option maxHeartbeats 8000000 in
set_option maxRecDepth 10000 in
theorem direntReads_walk (v : Value) (b : List UInt8) (w : World) (hn : b.length ≤ 140737488355328) (hv : Byt w v b) :
    Calls Try.prog 6 #[v] w (RetT w true) := by
  obtain ⟨n0, n1, n2, n3, t0, t1, t2, t3, hf1, hf2⟩ := dr_form (full b)
  have hfl : (full b).length = 128 := full_length b
  have HF := fun w' => Lib.hid (fun h : Byt w' v b => full_any v b w' hn h)
  have HDR := fun w' => Lib.hid (dread_any (full b) w' hfl)
  have HRR := fun w' => Lib.hid (rread06_any (full b) w' hfl)
  have HOW := fun w' => Lib.hid (dirown_any n0 n1 n2 n3 t0 t1 t2 t3 w')
  have hl2 : (bvs (full b)).toArray.size = 128 := by rw [secV_size, hfl]
  have HL2 := Lib.hid hl2
  have HV := Lib.hid hv
  obtain ⟨ok, hok⟩ : ∃ ok, ok = drB (full b) := ⟨_, rfl⟩
  have hde := drE_of (full b) ok hok
  rw [← hok] at HRR
  obtain ⟨de, hde2⟩ : ∃ de, de = drE (full b) := ⟨_, rfl⟩
  rw [← hde2] at HDR hde
  rw [hf1] at HDR HRR
  obtain ⟨l, hl⟩ : ∃ l, l = full b := ⟨_, rfl⟩
  unfold secV at HDR HRR HF
  unfold entsV at HOW
  rw [← hl] at HDR HRR HF HL2
  have HDE := Lib.hid hde
  clear hf1 hf2 hfl hok hde hde2 hl hl2 hv hn
  have hz := zero_sec
  have hza := zero_arr
  have hsr : (Try.prog.info? 29).map (·.size) = some 8 := by kernel_rfl
  go_enter Try.func6, Try.ntmps6
  go_upto_region 4 with (first
    | (refine wpList_store_row rfl 36 (.tmp 3) (.tmp 11) rfl w2.heap.size zArr (bvs l).toArray 36 rfl rfl (heap_alloc_last _ _) (by rw [HL2.out]; exact size_arr) (by rw [HL2.out, zArr_size]) (sec_one _) ?_)
    | (go_at_call 8; go_must (refine (awake06 _).mono ?_; rintro e w1 ⟨rfl, hb1⟩; have HB1 := Lib.hid hb1; clear hb1))
    | (go_at_call 18; go_must (refine ((HF w1).out (HV.out.below HB1.out)).mono ?_; rintro e w2 ⟨rfl, hb2⟩; have HB2 := Lib.hid (bnext HB1.out hb2); clear hb2)))
  rw [World.setRow_alloc_new]
  have hS := heap_alloc_last w2 (.cells (bvs l).toArray 36 (0, 0))
  have hB := HB2.out.alloc HB2.out.size (.cells (bvs l).toArray 36 (0, 0))
  revert hS hB
  generalize w2.alloc (.cells (bvs l).toArray 36 (0, 0)) = w3
  generalize w2.heap.size = p3
  intro hS hB
  have HS3 := Lib.hid hS
  have HB3 := Lib.hid hB
  clear hS hB HB1 HB2 HF HV
  go_upto_region 5 with (first
    | (refine wpList_load_row rfl 36 (.tmp 3) rfl p3 rfl _ _ _ _ HS3.out Try.underlying36 rfl (by rw [HL2.out]; exact size_arr) ?_)
    | (refine wpList_store_row rfl 31 (.tmp 4) (.tmp 15) rfl w4.heap.size #[.int .i64 0, .string ⟨#[]⟩, .int .i64 0, .string ⟨#[]⟩, .int .i64 0, .string ⟨#[]⟩, .int .i64 0, .string ⟨#[]⟩] #[.int .i64 n0, .string t0, .int .i64 n1, .string t1, .int .i64 n2, .string t2, .int .i64 n3, .string t3] 31 rfl rfl (heap_alloc_last _ _) size_ents rfl (by simp [Value.oneCell']) ?_)
    | (go_at_call 17; go_must (refine (HDR w3).out.mono ?_; rintro e w4 ⟨rfl, hb4⟩; have HS4 := Lib.hid (heap_keep HS3.out hb4); have HB4 := Lib.hid (bnext HB3.out hb4); clear hb4)))
  rw [World.setRow_alloc_new]
  have hA := (Below.refl w4.heap.size w4).alloc (Nat.le_refl _) (.cells #[.int .i64 n0, .string t0, .int .i64 n1, .string t1, .int .i64 n2, .string t2, .int .i64 n3, .string t3] 31 (0, 0))
  have hT := heap_alloc_last w4 (.cells #[.int .i64 n0, .string t0, .int .i64 n1, .string t1, .int .i64 n2, .string t2, .int .i64 n3, .string t3] 31 (0, 0))
  have hB := HB4.out.alloc HB4.out.size (.cells #[.int .i64 n0, .string t0, .int .i64 n1, .string t1, .int .i64 n2, .string t2, .int .i64 n3, .string t3] 31 (0, 0))
  have hS := heap_keep HS4.out hA
  clear hA
  revert hT hB hS
  generalize w4.alloc (.cells #[.int .i64 n0, .string t0, .int .i64 n1, .string t1, .int .i64 n2, .string t2, .int .i64 n3, .string t3] 31 (0, 0)) = w5
  generalize w4.heap.size = p5
  intro hT hB hS
  have HT5 := Lib.hid hT
  have HB5 := Lib.hid hB
  have HS5 := Lib.hid hS
  clear hT hB hS HS3 HB3 HS4 HB4 HDR
  go_upto_region 6 with (first
    | (refine wpList_load_row rfl 36 (.tmp 3) rfl p3 rfl _ _ _ _ HS5.out Try.underlying36 rfl (by rw [HL2.out]; exact size_arr) ?_)
    | (refine wpList_store_row rfl 29 (.tmp 6) (.tmp 20) rfl w6.heap.size #[.int .i64 0, .string ⟨#[]⟩, .int .i64 0, .string ⟨#[]⟩, .int .i64 0, .string ⟨#[]⟩, .int .i64 0, .string ⟨#[]⟩] #[.int .i64 n0, .string t0, .int .i64 n1, .string t1, .int .i64 n2, .string t2, .int .i64 n3, .string t3] 29 rfl rfl (heap_alloc_last _ _) size_rents rfl (by simp [Value.oneCell']) ?_)
    | (go_at_call 19; go_must (refine (HRR w5).out.mono ?_; rintro e w6 ⟨rfl, hb6⟩; have HT6 := Lib.hid (heap_keep HT5.out hb6); have HB6 := Lib.hid (bnext HB5.out hb6); clear hb6)))
  rw [World.setRow_alloc_new]
  have hA := (Below.refl w6.heap.size w6).alloc (Nat.le_refl _) (.cells #[.int .i64 n0, .string t0, .int .i64 n1, .string t1, .int .i64 n2, .string t2, .int .i64 n3, .string t3] 29 (0, 0))
  have hT := heap_alloc_last w6 (.cells #[.int .i64 n0, .string t0, .int .i64 n1, .string t1, .int .i64 n2, .string t2, .int .i64 n3, .string t3] 29 (0, 0))
  have hB := HB6.out.alloc HB6.out.size (.cells #[.int .i64 n0, .string t0, .int .i64 n1, .string t1, .int .i64 n2, .string t2, .int .i64 n3, .string t3] 29 (0, 0))
  have hS := heap_keep HT6.out hA
  clear hA
  revert hT hB hS
  generalize w6.alloc (.cells #[.int .i64 n0, .string t0, .int .i64 n1, .string t1, .int .i64 n2, .string t2, .int .i64 n3, .string t3] 29 (0, 0)) = w7
  generalize w6.heap.size = p7
  intro hT hB hS
  have hS7 : At16 p5 p7 n0 n1 n2 n3 t0 t1 t2 t3 w7.drew := ⟨At8.row (w := w7.drew) hS, At8.row (w := w7.drew) hT⟩
  have HB7 := Lib.hid hB
  have hEQ : ∀ W : World, (Op.equalIn 10000 31 (.agg #[.int .i64 n0, .string t0, .int .i64 n1, .string t1, .int .i64 n2, .string t2, .int .i64 n3, .string t3]) (.agg #[.int .i64 n0, .string t0, .int .i64 n1, .string t1, .int .i64 n2, .string t2, .int .i64 n3, .string t3])).run Try.prog W = .ok true W := fun W => equal_ents W n0 n1 n2 n3 t0 t1 t2 t3
  clear hT hB hS HS5 HB5 HT5 HT6 HB6 HRR
  cases ok with
  | true =>
    obtain rfl : de = 0 := HDE.out
    clear HDE
    refine wp_region_held_drew (S := (fun w' => At16 p5 p7 n0 n1 n2 n3 t0 t1 t2 t3 w')) (by kernel_rfl) (by exact hS7) (fun hHeld => ?_)
    refine take1_ (i := 0) (v := ?_) (a' := ?_) (some 22) #[true, false, false, false, false, false, false, false, false, false, false, false, false, false, false, false, false, false] rfl rfl (by kernel_rfl) (fun _ _ _ h => h) (Or.inl ⟨by rfl, ?_⟩) hHeld ?_ ?_
    rotate_left
    · (intro w hSw; (try dsimp only at hSw); obtain ⟨⟨a0, a1, a2, a3, a4, a5, a6, a7⟩, b0, b1, b2, b3, b4, b5, b6, b7⟩ := hSw; go_simp; (try with_reducible rfl))
    rotate_left
    · simp only [Act.put, List.setIfInBounds_toArray, List.set_cons_zero, List.set_cons_succ]
      rfl
    refine take1_ (i := 1) (v := ?_) (a' := ?_) (some 23) #[true, true, false, false, false, false, false, false, false, false, false, false, false, false, false, false, false, false] rfl rfl (by kernel_rfl) (fun _ _ _ h => h) (Or.inl ⟨by rfl, ?_⟩) hHeld ?_ ?_
    rotate_left
    · (intro w hSw; (try dsimp only at hSw); obtain ⟨⟨a0, a1, a2, a3, a4, a5, a6, a7⟩, b0, b1, b2, b3, b4, b5, b6, b7⟩ := hSw; go_simp; (try with_reducible rfl))
    rotate_left
    · simp only [Act.put, List.setIfInBounds_toArray, List.set_cons_zero, List.set_cons_succ]
      rfl
    refine loud1_ (i := 2) (some 24) #[true, true, true, false, false, false, false, false, false, false, false, false, false, false, false, false, false, false] rfl rfl (by kernel_rfl) (fun K hK => ?_)
    go_simp
    (go_at_call 11; refine (HOW _).out.mono ?_; rintro e x1 ⟨rfl, k1⟩)
    refine hK.out _ _ (by exact At16.below ‹_› ‹_›) (fun hHeld' => ?_)
    clear hK K hHeld
    have hHeld := hHeld'
    clear hHeld'
    try simp only [Act.put, List.setIfInBounds_toArray, List.set_cons_zero, List.set_cons_succ]
    refine take1_ (i := 3) (v := ?_) (a' := ?_) (some 25) #[true, true, true, true, false, false, false, false, false, false, false, false, false, false, false, false, false, false] rfl rfl (by kernel_rfl) (fun _ _ _ h => h) (Or.inl ⟨by rfl, ?_⟩) hHeld ?_ ?_
    rotate_left
    · (intro w hSw; (try dsimp only at hSw); obtain ⟨⟨a0, a1, a2, a3, a4, a5, a6, a7⟩, b0, b1, b2, b3, b4, b5, b6, b7⟩ := hSw; go_simp; (try with_reducible rfl))
    rotate_left
    · simp only [Act.put, List.setIfInBounds_toArray, List.set_cons_zero, List.set_cons_succ]
      rfl
    refine take1_ (i := 4) (v := ?_) (a' := ?_) (some 26) #[true, true, true, true, true, false, false, false, false, false, false, false, false, false, false, false, false, false] rfl rfl (by kernel_rfl) (fun _ _ _ h => h) (Or.inl ⟨by rfl, ?_⟩) hHeld ?_ ?_
    rotate_left
    · (intro w hSw; (try dsimp only at hSw); obtain ⟨⟨a0, a1, a2, a3, a4, a5, a6, a7⟩, b0, b1, b2, b3, b4, b5, b6, b7⟩ := hSw; go_simp; (try with_reducible rfl))
    rotate_left
    · simp only [Act.put, List.setIfInBounds_toArray, List.set_cons_zero, List.set_cons_succ]
      rfl
    refine take1_ (i := 5) (v := ?_) (a' := ?_) (some 27) #[true, true, true, true, true, true, false, false, false, false, false, false, false, false, false, false, false, false] rfl rfl (by kernel_rfl) (fun _ _ _ h => h) (Or.inl ⟨by rfl, ?_⟩) hHeld ?_ ?_
    rotate_left
    · (intro w hSw; (try dsimp only at hSw); obtain ⟨⟨a0, a1, a2, a3, a4, a5, a6, a7⟩, b0, b1, b2, b3, b4, b5, b6, b7⟩ := hSw; go_simp; (try with_reducible rfl))
    rotate_left
    · simp only [Act.put, List.setIfInBounds_toArray, List.set_cons_zero, List.set_cons_succ]
      rfl
    refine take1_ (i := 6) (v := ?_) (a' := ?_) (some 28) #[true, true, true, true, true, true, true, false, false, false, false, false, false, false, false, false, false, false] rfl rfl (by kernel_rfl) (fun _ _ _ h => h) (Or.inl ⟨by rfl, ?_⟩) hHeld ?_ ?_
    rotate_left
    · (intro w hSw; (try dsimp only at hSw); obtain ⟨⟨a0, a1, a2, a3, a4, a5, a6, a7⟩, b0, b1, b2, b3, b4, b5, b6, b7⟩ := hSw; go_simp; (try with_reducible rfl))
    rotate_left
    · simp only [Act.put, List.setIfInBounds_toArray, List.set_cons_zero, List.set_cons_succ]
      rfl
    refine take1_ (i := 7) (v := ?_) (a' := ?_) (some 29) #[true, true, true, true, true, true, true, true, false, false, false, false, false, false, false, false, false, false] rfl rfl (by kernel_rfl) (fun _ _ _ h => h) (Or.inl ⟨by rfl, ?_⟩) hHeld ?_ ?_
    rotate_left
    · (intro w hSw; (try dsimp only at hSw); obtain ⟨⟨a0, a1, a2, a3, a4, a5, a6, a7⟩, b0, b1, b2, b3, b4, b5, b6, b7⟩ := hSw; go_simp; (try with_reducible rfl))
    rotate_left
    · simp only [Act.put, List.setIfInBounds_toArray, List.set_cons_zero, List.set_cons_succ]
      rfl
    refine take1_ (i := 8) (v := ?_) (a' := ?_) (some 30) #[true, true, true, true, true, true, true, true, true, false, false, false, false, false, false, false, false, false] rfl rfl (by kernel_rfl) (fun _ _ _ h => h) (Or.inl ⟨by rfl, ?_⟩) hHeld ?_ ?_
    rotate_left
    · (intro w hSw; (try dsimp only at hSw); obtain ⟨⟨a0, a1, a2, a3, a4, a5, a6, a7⟩, b0, b1, b2, b3, b4, b5, b6, b7⟩ := hSw; go_simp; (try with_reducible rfl))
    rotate_left
    · simp only [Act.put, List.setIfInBounds_toArray, List.set_cons_zero, List.set_cons_succ]
      rfl
    refine take1_ (i := 9) (v := ?_) (a' := ?_) (some 31) #[true, true, true, true, true, true, true, true, true, true, false, false, false, false, false, false, false, false] rfl rfl (by kernel_rfl) (fun _ _ _ h => h) (Or.inl ⟨by rfl, ?_⟩) hHeld ?_ ?_
    rotate_left
    · (intro w hSw; (try dsimp only at hSw); obtain ⟨⟨a0, a1, a2, a3, a4, a5, a6, a7⟩, b0, b1, b2, b3, b4, b5, b6, b7⟩ := hSw; go_simp; (try with_reducible rfl))
    rotate_left
    · simp only [Act.put, List.setIfInBounds_toArray, List.set_cons_zero, List.set_cons_succ]
      rfl
    refine take1_ (i := 10) (v := ?_) (a' := ?_) (some 32) #[true, true, true, true, true, true, true, true, true, true, true, false, false, false, false, false, false, false] rfl rfl (by kernel_rfl) (fun _ _ _ h => h) (Or.inl ⟨by rfl, ?_⟩) hHeld ?_ ?_
    rotate_left
    · (intro w hSw; (try dsimp only at hSw); obtain ⟨⟨a0, a1, a2, a3, a4, a5, a6, a7⟩, b0, b1, b2, b3, b4, b5, b6, b7⟩ := hSw; go_simp; (try with_reducible rfl))
    rotate_left
    · simp only [Act.put, List.setIfInBounds_toArray, List.set_cons_zero, List.set_cons_succ]
      rfl
    refine take1_ (i := 11) (v := ?_) (a' := ?_) (some 33) #[true, true, true, true, true, true, true, true, true, true, true, true, false, false, false, false, false, false] rfl rfl (by kernel_rfl) (fun _ _ _ h => h) (Or.inl ⟨by rfl, ?_⟩) hHeld ?_ ?_
    rotate_left
    · (intro w hSw; (try dsimp only at hSw); obtain ⟨⟨a0, a1, a2, a3, a4, a5, a6, a7⟩, b0, b1, b2, b3, b4, b5, b6, b7⟩ := hSw; go_simp; (try with_reducible rfl))
    rotate_left
    · simp only [Act.put, List.setIfInBounds_toArray, List.set_cons_zero, List.set_cons_succ]
      rfl
    refine take1_ (i := 12) (v := ?_) (a' := ?_) (some 34) #[true, true, true, true, true, true, true, true, true, true, true, true, true, false, false, false, false, false] rfl rfl (by kernel_rfl) (fun _ _ _ h => h) (Or.inl ⟨by rfl, ?_⟩) hHeld ?_ ?_
    rotate_left
    · (intro w hSw; (try dsimp only at hSw); obtain ⟨⟨a0, a1, a2, a3, a4, a5, a6, a7⟩, b0, b1, b2, b3, b4, b5, b6, b7⟩ := hSw; go_simp; (try with_reducible rfl))
    rotate_left
    · simp only [Act.put, List.setIfInBounds_toArray, List.set_cons_zero, List.set_cons_succ]
      rfl
    refine off_ (by kernel_rfl) (fun _ _ d _ _ h => by cases d <;> exact h) hHeld [13, 14] [some 35, some 36] [(34, some true)] #[true, true, true, true, true, true, true, true, true, true, true, true, true, true, true, false, false, false] 3 rfl (by kernel_rfl) (by repeat (first | exact trivial | refine ⟨by rfl, ?_⟩)) (a' := ?_) ?_ ?_
    rotate_left
    · simp only [putOff, Act.put, List.setIfInBounds_toArray, List.set_cons_zero, List.set_cons_succ]
      rfl
    refine take1_ (i := 15) (v := ?_) (a' := ?_) (some 37) #[true, true, true, true, true, true, true, true, true, true, true, true, true, true, true, true, false, false] rfl rfl (by kernel_rfl) (fun _ _ _ h => h) (Or.inl ⟨by rfl, ?_⟩) hHeld ?_ ?_
    rotate_left
    · (intro w hSw; (try dsimp only at hSw); obtain ⟨⟨a0, a1, a2, a3, a4, a5, a6, a7⟩, b0, b1, b2, b3, b4, b5, b6, b7⟩ := hSw; go_simp; (try with_reducible rfl))
    rotate_left
    · simp only [Act.put, List.setIfInBounds_toArray, List.set_cons_zero, List.set_cons_succ]
      rfl
    refine take1_ (i := 16) (v := ?_) (a' := ?_) (some 38) #[true, true, true, true, true, true, true, true, true, true, true, true, true, true, true, true, true, false] rfl rfl (by kernel_rfl) (fun _ _ _ h => h) (Or.inl ⟨by rfl, ?_⟩) hHeld ?_ ?_
    rotate_left
    · (intro w hSw; (try dsimp only at hSw); obtain ⟨⟨a0, a1, a2, a3, a4, a5, a6, a7⟩, b0, b1, b2, b3, b4, b5, b6, b7⟩ := hSw; go_simp; (try with_reducible rfl))
    rotate_left
    · simp only [Act.put, List.setIfInBounds_toArray, List.set_cons_zero, List.set_cons_succ]
      rfl
    refine take1_ (i := 17) (v := ?_) (a' := ?_) (some 2) #[true, true, true, true, true, true, true, true, true, true, true, true, true, true, true, true, true, true] rfl rfl (by kernel_rfl) (fun _ _ _ h => h) (Or.inl ⟨by rfl, ?_⟩) hHeld ?_ ?_
    rotate_left
    · (intro w hSw; (try dsimp only at hSw); obtain ⟨⟨a0, a1, a2, a3, a4, a5, a6, a7⟩, b0, b1, b2, b3, b4, b5, b6, b7⟩ := hSw; go_simp; (try with_reducible rfl))
    rotate_left
    · simp only [Act.put, List.setIfInBounds_toArray, List.set_cons_zero, List.set_cons_succ]
      rfl
    refine wpAnyH_done (by kernel_rfl) ?_ _
    go_wp2
    go_ret
    exact ⟨rfl, bnext HB7.out.drew k1⟩
  | false =>
    obtain rfl : de = 21 := HDE.out
    clear HDE
    refine wp_region_held_drew (S := (fun w' => At16 p5 p7 n0 n1 n2 n3 t0 t1 t2 t3 w')) (by kernel_rfl) (by exact hS7) (fun hHeld => ?_)
    refine take1_ (i := 0) (v := ?_) (a' := ?_) (some 22) #[true, false, false, false, false, false, false, false, false, false, false, false, false, false, false, false, false, false] rfl rfl (by kernel_rfl) (fun _ _ _ h => h) (Or.inl ⟨by rfl, ?_⟩) hHeld ?_ ?_
    rotate_left
    · (intro w hSw; (try dsimp only at hSw); obtain ⟨⟨a0, a1, a2, a3, a4, a5, a6, a7⟩, b0, b1, b2, b3, b4, b5, b6, b7⟩ := hSw; go_simp; (try with_reducible rfl))
    rotate_left
    · simp only [Act.put, List.setIfInBounds_toArray, List.set_cons_zero, List.set_cons_succ]
      rfl
    refine take1_ (i := 1) (v := ?_) (a' := ?_) (some 23) #[true, true, false, false, false, false, false, false, false, false, false, false, false, false, false, false, false, false] rfl rfl (by kernel_rfl) (fun _ _ _ h => h) (Or.inl ⟨by rfl, ?_⟩) hHeld ?_ ?_
    rotate_left
    · (intro w hSw; (try dsimp only at hSw); obtain ⟨⟨a0, a1, a2, a3, a4, a5, a6, a7⟩, b0, b1, b2, b3, b4, b5, b6, b7⟩ := hSw; go_simp; (try with_reducible rfl))
    rotate_left
    · simp only [Act.put, List.setIfInBounds_toArray, List.set_cons_zero, List.set_cons_succ]
      rfl
    refine loud1_ (i := 2) (some 24) #[true, true, true, false, false, false, false, false, false, false, false, false, false, false, false, false, false, false] rfl rfl (by kernel_rfl) (fun K hK => ?_)
    go_simp
    (go_at_call 11; refine (HOW _).out.mono ?_; rintro e x1 ⟨rfl, k1⟩)
    refine hK.out _ _ (by exact At16.below ‹_› ‹_›) (fun hHeld' => ?_)
    clear hK K hHeld
    have hHeld := hHeld'
    clear hHeld'
    try simp only [Act.put, List.setIfInBounds_toArray, List.set_cons_zero, List.set_cons_succ]
    refine take1_ (i := 3) (v := ?_) (a' := ?_) (some 25) #[true, true, true, true, false, false, false, false, false, false, false, false, false, false, false, false, false, false] rfl rfl (by kernel_rfl) (fun _ _ _ h => h) (Or.inl ⟨by rfl, ?_⟩) hHeld ?_ ?_
    rotate_left
    · (intro w hSw; (try dsimp only at hSw); obtain ⟨⟨a0, a1, a2, a3, a4, a5, a6, a7⟩, b0, b1, b2, b3, b4, b5, b6, b7⟩ := hSw; go_simp; (try with_reducible rfl))
    rotate_left
    · simp only [Act.put, List.setIfInBounds_toArray, List.set_cons_zero, List.set_cons_succ]
      rfl
    refine take1_ (i := 4) (v := ?_) (a' := ?_) (some 26) #[true, true, true, true, true, false, false, false, false, false, false, false, false, false, false, false, false, false] rfl rfl (by kernel_rfl) (fun _ _ _ h => h) (Or.inl ⟨by rfl, ?_⟩) hHeld ?_ ?_
    rotate_left
    · (intro w hSw; (try dsimp only at hSw); obtain ⟨⟨a0, a1, a2, a3, a4, a5, a6, a7⟩, b0, b1, b2, b3, b4, b5, b6, b7⟩ := hSw; go_simp; (try with_reducible rfl))
    rotate_left
    · simp only [Act.put, List.setIfInBounds_toArray, List.set_cons_zero, List.set_cons_succ]
      rfl
    refine take1_ (i := 5) (v := ?_) (a' := ?_) (some 27) #[true, true, true, true, true, true, false, false, false, false, false, false, false, false, false, false, false, false] rfl rfl (by kernel_rfl) (fun _ _ _ h => h) (Or.inl ⟨by rfl, ?_⟩) hHeld ?_ ?_
    rotate_left
    · (intro w hSw; (try dsimp only at hSw); obtain ⟨⟨a0, a1, a2, a3, a4, a5, a6, a7⟩, b0, b1, b2, b3, b4, b5, b6, b7⟩ := hSw; go_simp; (try with_reducible rfl))
    rotate_left
    · simp only [Act.put, List.setIfInBounds_toArray, List.set_cons_zero, List.set_cons_succ]
      rfl
    refine take1_ (i := 6) (v := ?_) (a' := ?_) (some 28) #[true, true, true, true, true, true, true, false, false, false, false, false, false, false, false, false, false, false] rfl rfl (by kernel_rfl) (fun _ _ _ h => h) (Or.inl ⟨by rfl, ?_⟩) hHeld ?_ ?_
    rotate_left
    · (intro w hSw; (try dsimp only at hSw); obtain ⟨⟨a0, a1, a2, a3, a4, a5, a6, a7⟩, b0, b1, b2, b3, b4, b5, b6, b7⟩ := hSw; go_simp; (try with_reducible rfl))
    rotate_left
    · simp only [Act.put, List.setIfInBounds_toArray, List.set_cons_zero, List.set_cons_succ]
      rfl
    refine take1_ (i := 7) (v := ?_) (a' := ?_) (some 29) #[true, true, true, true, true, true, true, true, false, false, false, false, false, false, false, false, false, false] rfl rfl (by kernel_rfl) (fun _ _ _ h => h) (Or.inl ⟨by rfl, ?_⟩) hHeld ?_ ?_
    rotate_left
    · (intro w hSw; (try dsimp only at hSw); obtain ⟨⟨a0, a1, a2, a3, a4, a5, a6, a7⟩, b0, b1, b2, b3, b4, b5, b6, b7⟩ := hSw; go_simp; (try with_reducible rfl))
    rotate_left
    · simp only [Act.put, List.setIfInBounds_toArray, List.set_cons_zero, List.set_cons_succ]
      rfl
    refine take1_ (i := 8) (v := ?_) (a' := ?_) (some 30) #[true, true, true, true, true, true, true, true, true, false, false, false, false, false, false, false, false, false] rfl rfl (by kernel_rfl) (fun _ _ _ h => h) (Or.inl ⟨by rfl, ?_⟩) hHeld ?_ ?_
    rotate_left
    · (intro w hSw; (try dsimp only at hSw); obtain ⟨⟨a0, a1, a2, a3, a4, a5, a6, a7⟩, b0, b1, b2, b3, b4, b5, b6, b7⟩ := hSw; go_simp; (try with_reducible rfl))
    rotate_left
    · simp only [Act.put, List.setIfInBounds_toArray, List.set_cons_zero, List.set_cons_succ]
      rfl
    refine take1_ (i := 9) (v := ?_) (a' := ?_) (some 31) #[true, true, true, true, true, true, true, true, true, true, false, false, false, false, false, false, false, false] rfl rfl (by kernel_rfl) (fun _ _ _ h => h) (Or.inl ⟨by rfl, ?_⟩) hHeld ?_ ?_
    rotate_left
    · (intro w hSw; (try dsimp only at hSw); obtain ⟨⟨a0, a1, a2, a3, a4, a5, a6, a7⟩, b0, b1, b2, b3, b4, b5, b6, b7⟩ := hSw; go_simp; (try with_reducible rfl))
    rotate_left
    · simp only [Act.put, List.setIfInBounds_toArray, List.set_cons_zero, List.set_cons_succ]
      rfl
    refine take1_ (i := 10) (v := ?_) (a' := ?_) (some 32) #[true, true, true, true, true, true, true, true, true, true, true, false, false, false, false, false, false, false] rfl rfl (by kernel_rfl) (fun _ _ _ h => h) (Or.inl ⟨by rfl, ?_⟩) hHeld ?_ ?_
    rotate_left
    · (intro w hSw; (try dsimp only at hSw); obtain ⟨⟨a0, a1, a2, a3, a4, a5, a6, a7⟩, b0, b1, b2, b3, b4, b5, b6, b7⟩ := hSw; go_simp; (try with_reducible rfl))
    rotate_left
    · simp only [Act.put, List.setIfInBounds_toArray, List.set_cons_zero, List.set_cons_succ]
      rfl
    refine take1_ (i := 11) (v := ?_) (a' := ?_) (some 33) #[true, true, true, true, true, true, true, true, true, true, true, true, false, false, false, false, false, false] rfl rfl (by kernel_rfl) (fun _ _ _ h => h) (Or.inl ⟨by rfl, ?_⟩) hHeld ?_ ?_
    rotate_left
    · (intro w hSw; (try dsimp only at hSw); obtain ⟨⟨a0, a1, a2, a3, a4, a5, a6, a7⟩, b0, b1, b2, b3, b4, b5, b6, b7⟩ := hSw; go_simp; (try with_reducible rfl))
    rotate_left
    · simp only [Act.put, List.setIfInBounds_toArray, List.set_cons_zero, List.set_cons_succ]
      rfl
    refine take1_ (i := 12) (v := ?_) (a' := ?_) (some 34) #[true, true, true, true, true, true, true, true, true, true, true, true, true, false, false, false, false, false] rfl rfl (by kernel_rfl) (fun _ _ _ h => h) (Or.inl ⟨by rfl, ?_⟩) hHeld ?_ ?_
    rotate_left
    · (intro w hSw; (try dsimp only at hSw); obtain ⟨⟨a0, a1, a2, a3, a4, a5, a6, a7⟩, b0, b1, b2, b3, b4, b5, b6, b7⟩ := hSw; go_simp; (try with_reducible rfl))
    rotate_left
    · simp only [Act.put, List.setIfInBounds_toArray, List.set_cons_zero, List.set_cons_succ]
      rfl
    refine take1_ (i := 13) (v := ?_) (a' := ?_) (some 35) #[true, true, true, true, true, true, true, true, true, true, true, true, true, true, false, false, false, false] rfl rfl (by kernel_rfl) (fun _ _ _ h => h) (Or.inl ⟨by rfl, ?_⟩) hHeld ?_ ?_
    rotate_left
    · (intro w hSw; (try dsimp only at hSw); obtain ⟨⟨a0, a1, a2, a3, a4, a5, a6, a7⟩, b0, b1, b2, b3, b4, b5, b6, b7⟩ := hSw; go_simp; (try with_reducible rfl))
    rotate_left
    · simp only [Act.put, List.setIfInBounds_toArray, List.set_cons_zero, List.set_cons_succ]
      rfl
    refine take1_ (i := 14) (v := ?_) (a' := ?_) (some 36) #[true, true, true, true, true, true, true, true, true, true, true, true, true, true, true, false, false, false] rfl rfl (by kernel_rfl) (fun _ _ _ h => h) (Or.inl ⟨by rfl, ?_⟩) hHeld ?_ ?_
    rotate_left
    · (intro w hSw; (try dsimp only at hSw); obtain ⟨⟨a0, a1, a2, a3, a4, a5, a6, a7⟩, b0, b1, b2, b3, b4, b5, b6, b7⟩ := hSw; go_simp; (try with_reducible rfl))
    rotate_left
    · simp only [Act.put, List.setIfInBounds_toArray, List.set_cons_zero, List.set_cons_succ]
      rfl
    refine take1_ (i := 15) (v := ?_) (a' := ?_) (some 37) #[true, true, true, true, true, true, true, true, true, true, true, true, true, true, true, true, false, false] rfl rfl (by kernel_rfl) (fun _ _ _ h => h) (Or.inl ⟨by rfl, ?_⟩) hHeld ?_ ?_
    rotate_left
    · (intro w hSw; (try dsimp only at hSw); obtain ⟨⟨a0, a1, a2, a3, a4, a5, a6, a7⟩, b0, b1, b2, b3, b4, b5, b6, b7⟩ := hSw; go_simp; (try with_reducible rfl))
    rotate_left
    · simp only [Act.put, List.setIfInBounds_toArray, List.set_cons_zero, List.set_cons_succ]
      rfl
    refine take1_ (i := 16) (v := ?_) (a' := ?_) (some 38) #[true, true, true, true, true, true, true, true, true, true, true, true, true, true, true, true, true, false] rfl rfl (by kernel_rfl) (fun _ _ _ h => h) (Or.inl ⟨by rfl, ?_⟩) hHeld ?_ ?_
    rotate_left
    · (intro w hSw; (try dsimp only at hSw); obtain ⟨⟨a0, a1, a2, a3, a4, a5, a6, a7⟩, b0, b1, b2, b3, b4, b5, b6, b7⟩ := hSw; go_simp; (try with_reducible rfl))
    rotate_left
    · simp only [Act.put, List.setIfInBounds_toArray, List.set_cons_zero, List.set_cons_succ]
      rfl
    refine take1_ (i := 17) (v := ?_) (a' := ?_) (some 2) #[true, true, true, true, true, true, true, true, true, true, true, true, true, true, true, true, true, true] rfl rfl (by kernel_rfl) (fun _ _ _ h => h) (Or.inl ⟨by rfl, ?_⟩) hHeld ?_ ?_
    rotate_left
    · (intro w hSw; (try dsimp only at hSw); obtain ⟨⟨a0, a1, a2, a3, a4, a5, a6, a7⟩, b0, b1, b2, b3, b4, b5, b6, b7⟩ := hSw; go_simp; (try with_reducible rfl))
    rotate_left
    · simp only [Act.put, List.setIfInBounds_toArray, List.set_cons_zero, List.set_cons_succ]
      rfl
    refine wpAnyH_done (by kernel_rfl) ?_ _
    go_wp2
    go_ret
    exact ⟨rfl, bnext HB7.out.drew k1⟩
end Go.Proofs.Ytcgfhpgjaibmhaa
