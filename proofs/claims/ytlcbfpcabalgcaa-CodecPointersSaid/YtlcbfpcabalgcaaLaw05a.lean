/-
  CodecInodes: the walk.
-/
import Derived.Test.YtlcbfpcabalgcaaCodQ
namespace Go.Proofs.Ytlcbfpcabalgcaa
open Go.RowKit
set_option linter.unusedVariables false
set_option linter.unusedSimpArgs false
set_option linter.unnecessarySimpa false
theorem rinoV_ok (l : List UInt8) : (rinoV l).Ok := by
  unfold rinoV
  split
  · have h := fun a k (hk : k ≤ 4) => Nat.lt_of_lt_of_le (rN_lt (openL l) a k) (Nat.pow_le_pow_right (n := 256) (by decide) hk)
    have hi : ∀ a k, k ≤ 4 → I64 (rN (openL l) a k : Int) := fun a k hk => by have := h a k hk; exact ⟨by omega, by omega⟩
    refine ⟨h _ _ (by decide), h _ _ (by decide), hi _ _ (by decide), hi _ _ (by decide), h _ _ (by decide), rds_len _ 8 (by omega), fun d hd => ?_, hi _ _ (by decide), hi _ _ (by decide)⟩
    rw [rino, rds_eight] at hd
    simp only [List.mem_cons, List.not_mem_nil, or_false] at hd
    rcases hd with rfl | rfl | rfl | rfl | rfl | rfl | rfl | rfl <;> exact hi _ _ (by decide)
  · exact zIno_ok
theorem heq_sec (l : List UInt8) (h : l.length = 128) (W : World) : (Op.equalIn 10000 29 (.agg (bvs l).toArray) (.agg (bvs l).toArray)).run Try.prog W = .ok true W := by
  have q := equal_sector W l l h h
  rw [decide_eq_true (show l = l from rfl)] at q
  exact q
/-- How many the two errors are, of a thing that is written. -/
def okE (b : Bool) : Int := if b then 0 else 1
theorem wrE_okE (k : UInt8) (ok : Bool) (L : List UInt8) : wrE k ok L = okE (ok && mayB k L) := by
  unfold wrE okE
  rw [makeE_ok]
  cases ok <;> cases mayB k L <;> rfl
def okF (b : Bool) : Int := if b then 0 else 21
theorem range_below {w w' : World} {b o : Nat} {cs : List Value} (h : w.rangeAt b o cs) (hb : Below w.heap.size w w') : w'.rangeAt b o cs := fun j v hv => by
  have hc := h j v hv
  exact (hb.cell (p := ⟨b, o + j, none⟩) (World.block_lt_of_cell? w _ hc)).trans hc
set_option maxRecDepth 10000 in
set_option maxHeartbeats 32000000 in
theorem codecInodes_walk (x : Ino) (hx : x.Ok) (v : Value) (b : List UInt8) (w : World) (hn : b.length ≤ 140737488355328) (hv : Byt w v b) :
    Calls Try.prog 3 #[.agg x.cells.toArray, v] w fun e w' => e = .returned (.bool true) ∧ Below w.heap.size w w' := by
  obtain ⟨sv, cv, rfl, _⟩ := hv.form
  have hA := fun W => awake05 W
  have HA := fun W => Lib.hid (hA W)
  have HLI := fun W => Lib.hid (linode_any x W hx)
  obtain ⟨S, hS⟩ : ∃ S, wrS 2 (inoMay x.kind && !fBad (inoL x)) (fB (inoL x)) = S := ⟨_, rfl⟩
  obtain ⟨ok, hok⟩ : ∃ ok, ((inoMay x.kind && !fBad (inoL x)) && mayB 2 (fB (inoL x))) = ok := ⟨_, rfl⟩
  have hSl : S.length = 128 := by rw [← hS]; exact wrS_length _ _ _
  have HWI : ∀ W, Hid (Calls Try.prog 11 #[.agg x.cells.toArray] W fun e w' => e = .returned (.tuple #[.agg (bvs S).toArray, .int .i64 (okE ok)]) ∧ Below W.heap.size W w') := fun W => Lib.hid ((writeInode_any x W hx).mono fun e w' h => by
    have h1 := h.1
    rw [wrE_okE, hS, hok] at h1
    exact ⟨h1, h.2⟩)
  have HRW : ∀ W, Hid (Calls Try.prog 13 #[.agg x.cells.toArray] W fun e w' => e = .returned (.tuple #[.agg (bvs S).toArray, .bool ok]) ∧ Below W.heap.size W w') := fun W => Lib.hid ((rwriteInode_any x W hx).mono fun e w' h => by
    have h1 := h.1
    rw [hS, hok] at h1
    exact ⟨h1, h.2⟩)
  have hback : ok = true → rinoOk S = true ∧ rinoV S = x := fun h => by
    rw [← hok, Bool.and_eq_true, Bool.and_eq_true] at h
    have h3 : fBad (inoL x) = false := by simpa using h.1.2
    have h4 := ino_read x hx h.1.1 h3
    rw [← hS, h3, h.1.1]
    exact h4
  have HBK := Lib.hid hback
  have HRI := fun (l : List UInt8) (hl : l.length = 128) W => Lib.hid (readInode_any l W hl)
  have HRR := fun (l : List UInt8) (hl : l.length = 128) W => Lib.hid (rreadInode_any l W hl)
  have HXS := Lib.hid (ino_size x hx)
  have HEQ := fun W => Lib.hid (eq_ino W x hx.len)
  have HTU := fun W (hb : Below w.heap.size w W) => Lib.hid (turn_any S (.slice sv b.length cv) b W hSl hn (hv.below hb))
  have HES := fun W => Lib.hid (heq_sec S hSl W)
  have hSZ : (bvs S).toArray.size = 128 := by rw [secV_size, hSl]
  have HSZ := Lib.hid hSZ
  have HSL := Lib.hid hSl
  clear hA hS hok hSl hback hv hSZ hx
  obtain ⟨C, hC⟩ : ∃ C, x.cells.toArray = C := ⟨_, rfl⟩
  have HC := Lib.hid hC
  simp only [hC] at HLI HWI HRW HEQ HXS ⊢
  clear hC
  unfold secV at HRI HRR
  have hb1 : Below w.heap.size w (w.alloc (.cells C 25 (0, 0))) := (Below.refl _ _).alloc (Nat.le_refl _) _
  have hG1 := heap_alloc_last w (.cells C 25 (0, 0))
  have HB1 := Lib.hid hb1
  have HG1 := Lib.hid hG1
  clear hb1 hG1
  go_enter Try.func3, Try.ntmps3
  go_upto_region 1 with fail
  revert HB1 HG1
  generalize w.alloc (.cells C 25 (0, 0)) = w1
  intro HB1 HG1
  go_upto_region 3 with (go_at_call 10; refine (HA _).out.mono ?_; rintro e w2 ⟨rfl, hb2⟩; have HG2 := Lib.hid (old_heap HG1.out hb2); have HB2 := Lib.hid (bnext HB1.out hb2); clear hb2)
  go_upto_region 4 with (first
    | (refine wpList_load_row rfl 25 (.tmp 2) rfl w.heap.size rfl _ _ _ _ HG2.out Try.underlying25 rfl (by rw [HXS.out]; exact infoRInode) ?_)
    | (go_at_call 12; refine (HLI _).out.mono ?_; rintro e w3 ⟨rfl, hb3⟩; have HG3 := Lib.hid (old_heap HG2.out hb3); have HB3 := Lib.hid (bnext HB2.out hb3); clear hb3)
    | (go_at_call 11; refine (HWI _).out.mono ?_; rintro e w4 ⟨rfl, hb4⟩; have HG4 := Lib.hid (old_heap HG3.out hb4); have HB4 := Lib.hid (bnext HB3.out hb4); clear hb4)
    | (refine wpList_store_row rfl 29 (.tmp 5) (.tmp 20) rfl w4.heap.size zArr (bvs S).toArray 29 rfl rfl (heap_alloc_last _ _) (by rw [HSZ.out]; exact size_sec) (by rw [HSZ.out, zArr_size]) (sec_one _) ?_))
  rw [World.setRow_alloc_new]
  have hT5 := heap_alloc_last w4 (.cells (bvs S).toArray 29 (0, 0))
  have hb5 : Below w4.heap.size w4 (w4.alloc (.cells (bvs S).toArray 29 (0, 0))) := (Below.refl _ _).alloc (Nat.le_refl _) _
  have hG5 := old_heap HG4.out hb5
  have hB5 := bnext HB4.out hb5
  clear hb5 HG4 HB4 HG3 HB3 HG2 HB2 HG1 HB1
  revert hT5 hG5 hB5
  generalize w4.alloc (.cells (bvs S).toArray 29 (0, 0)) = w5
  generalize w4.heap.size = p5
  intro hT5 hG5 hB5
  have HT5 := Lib.hid hT5
  have HG5 := Lib.hid hG5
  have HB5 := Lib.hid hB5
  clear hT5 hG5 hB5
  go_upto_region 5 with (first
    | (refine wpList_load_row rfl 25 (.tmp 2) rfl w.heap.size rfl _ _ _ _ HG5.out Try.underlying25 rfl (by rw [HXS.out]; exact infoRInode) ?_)
    | (go_at_call 13; refine (HRW _).out.mono ?_; rintro e w6 ⟨rfl, hb6⟩; have HG6 := Lib.hid (old_heap HG5.out hb6); have HT6 := Lib.hid (old_heap HT5.out hb6); have HB6 := Lib.hid (bnext HB5.out hb6); clear hb6)
    | (refine wpList_store_row rfl 28 (.tmp 7) (.tmp 25) rfl w6.heap.size zArr (bvs S).toArray 28 rfl rfl (heap_alloc_last _ _) (by rw [HSZ.out]; exact size_arr) (by rw [HSZ.out, zArr_size]) (sec_one _) ?_))
  rw [World.setRow_alloc_new]
  have hU7 := heap_alloc_last w6 (.cells (bvs S).toArray 28 (0, 0))
  have hb7 : Below w6.heap.size w6 (w6.alloc (.cells (bvs S).toArray 28 (0, 0))) := (Below.refl _ _).alloc (Nat.le_refl _) _
  have hG7 := old_heap HG6.out hb7
  have hT7 := old_heap HT6.out hb7
  have hB7 := bnext HB6.out hb7
  clear hb7 HG6 HT6 HB6 HG5 HT5 HB5
  revert hU7 hG7 hT7 hB7
  generalize w6.alloc (.cells (bvs S).toArray 28 (0, 0)) = w7
  generalize w6.heap.size = p7
  intro hU7 hG7 hT7 hB7
  have HU7 := Lib.hid hU7
  have HG7 := Lib.hid hG7
  have HT7 := Lib.hid hT7
  have HB7 := Lib.hid hB7
  clear hU7 hG7 hT7 hB7
  have hes := fun W => (HES W).out
  cases ok with
  | true =>
    obtain ⟨hk1, hk2⟩ := HBK.out rfl
    have he0 : okE true = 0 := rfl
    rw [he0]
    have HRI1 : ∀ W, Hid (Calls Try.prog 14 #[.agg (bvs S).toArray] W fun e w' => e = .returned (.tuple #[.agg C, .int .i64 0]) ∧ Below W.heap.size W w') := fun W => Lib.hid ((HRI S HSL.out W).out.mono fun e w' h => by
      have h1 := h.1
      rw [rinoE, hk1, hk2, HC.out, if_pos rfl] at h1
      exact ⟨h1, h.2⟩)
    clear hk1 hk2 he0
    have HE1 : Hid (C.all (·.oneCell') = true) := Lib.hid (by rw [← HC.out]; exact inoF_one _ _ _ _ _ _ _ _)
    have HESZ := HXS
    go_upto_region 8 with (first
      | (refine wpList_load_row rfl 29 (.tmp 5) rfl p5 rfl _ _ _ _ HT7.out Try.underlying29 rfl (by rw [HSZ.out]; exact size_sec) ?_)
      | (refine wpList_load_row rfl 28 (.tmp 7) rfl p7 rfl _ _ _ _ HU7.out Try.underlying28 rfl (by rw [HSZ.out]; exact size_arr) ?_)
      | (go_at_call 14; go_must (refine (HRI1 _).out.mono ?_; rintro e w8 ⟨rfl, hb8⟩; have HG8 := Lib.hid (old_heap HG7.out hb8); have HT8 := Lib.hid (old_heap HT7.out hb8); have HB8 := Lib.hid (bnext HB7.out hb8); clear hb8))
      | (refine wpList_store_row rfl 33 (.tmp 9) (.tmp 47) rfl w8.heap.size _ C 33 rfl rfl (heap_alloc_last _ _) (by rw [HESZ.out]; exact infoInode) (by rw [HESZ.out]; rfl) HE1.out ?_))
    rw [World.setRow_alloc_new]
    have hE9 := heap_alloc_last w8 (.cells C 33 (0, 0))
    have hb9 : Below w8.heap.size w8 (w8.alloc (.cells C 33 (0, 0))) := (Below.refl _ _).alloc (Nat.le_refl _) _
    have hG9 := old_heap HG8.out hb9
    have hT9 := old_heap HT8.out hb9
    have hB9 := bnext HB8.out hb9
    clear hb9 HG8 HT8 HB8 HG7 HT7 HU7 HB7 HRI1
    revert hE9 hG9 hT9 hB9
    generalize w8.alloc (.cells C 33 (0, 0)) = w9
    generalize w8.heap.size = p8
    intro hE9 hG9 hT9 hB9
    have HE9 := Lib.hid hE9
    have HG9 := Lib.hid hG9
    have HT9 := Lib.hid hT9
    have HB9 := Lib.hid hB9
    clear hE9 hG9 hT9 hB9
    have hq1 : w9.rangeAt p8 0 C.toList := box_range HE9.out
    have hq2 : w9.rangeAt w.heap.size 0 C.toList := box_range HG9.out
    have HQ : Hid (w9.rangeAt p8 0 C.toList ∧ w9.rangeAt w.heap.size 0 C.toList ∧ w9.heap[p5]? = some (.cells (bvs S).toArray 29 (0, 0)) ∧ Below w.heap.size w w9) := ⟨hq1, hq2, HT9.out, HB9.out⟩
    have hsz : (Try.prog.info? 33).map (·.size) = some C.toList.length := by rw [Array.length_toList, HXS.out]; exact infoInode
    have hsr : (Try.prog.info? 25).map (·.size) = some C.toList.length := by rw [Array.length_toList, HXS.out]; exact infoRInode
    have heq := fun W => (HEQ W).out
    clear hq1 hq2 HE9 HG9 HT9 HB9
    refine wp_region_held_drew (S := (fun w' => w'.rangeAt p8 0 C.toList ∧ w'.rangeAt w.heap.size 0 C.toList ∧ w'.heap[p5]? = some (.cells (bvs S).toArray 29 (0, 0)) ∧ Below w.heap.size w w')) (by kernel_rfl) (by exact ⟨HQ.out.1, HQ.out.2.1, HQ.out.2.2.1, HQ.out.2.2.2.drew⟩) (fun hHeld => ?_)
    refine take1_ (i := 0) (v := ?_) (a' := ?_) (some 49) #[true, false, false, false, false, false, false, false, false, false, false] rfl rfl (by kernel_rfl) (fun _ _ _ h => h) (Or.inl ⟨by rfl, ?_⟩) hHeld ?_ ?_
    rotate_left
    · (intro w hSw; (try dsimp only at hSw); obtain ⟨hq1, hq2, hq3, hq4⟩ := hSw; go_simp; (try with_reducible rfl))
    rotate_left
    · simp only [Act.put, List.setIfInBounds_toArray, List.set_cons_zero, List.set_cons_succ]
      rfl
    refine take1_ (i := 1) (v := ?_) (a' := ?_) (some 50) #[true, true, false, false, false, false, false, false, false, false, false] rfl rfl (by kernel_rfl) (fun _ _ _ h => h) (Or.inl ⟨by rfl, ?_⟩) hHeld ?_ ?_
    rotate_left
    · (intro w hSw; (try dsimp only at hSw); obtain ⟨hq1, hq2, hq3, hq4⟩ := hSw; go_simp; (try with_reducible rfl))
    rotate_left
    · simp only [Act.put, List.setIfInBounds_toArray, List.set_cons_zero, List.set_cons_succ]
      rfl
    refine take1_ (i := 2) (v := ?_) (a' := ?_) (some 51) #[true, true, true, false, false, false, false, false, false, false, false] rfl rfl (by kernel_rfl) (fun _ _ _ h => h) (Or.inl ⟨by rfl, ?_⟩) hHeld ?_ ?_
    rotate_left
    · (intro w hSw; (try dsimp only at hSw); obtain ⟨hq1, hq2, hq3, hq4⟩ := hSw; go_simp; (try with_reducible rfl))
    rotate_left
    · simp only [Act.put, List.setIfInBounds_toArray, List.set_cons_zero, List.set_cons_succ]
      rfl
    refine take1_ (i := 3) (v := ?_) (a' := ?_) (some 52) #[true, true, true, true, false, false, false, false, false, false, false] rfl rfl (by kernel_rfl) (fun _ _ _ h => h) (Or.inl ⟨by rfl, ?_⟩) hHeld ?_ ?_
    rotate_left
    · (intro w hSw; (try dsimp only at hSw); obtain ⟨hq1, hq2, hq3, hq4⟩ := hSw; go_simp; (try with_reducible rfl))
    rotate_left
    · simp only [Act.put, List.setIfInBounds_toArray, List.set_cons_zero, List.set_cons_succ]
      rfl
    refine take1_ (i := 4) (v := ?_) (a' := ?_) (some 53) #[true, true, true, true, true, false, false, false, false, false, false] rfl rfl (by kernel_rfl) (fun _ _ _ h => h) (Or.inl ⟨by rfl, ?_⟩) hHeld ?_ ?_
    rotate_left
    · (intro w hSw; (try dsimp only at hSw); obtain ⟨hq1, hq2, hq3, hq4⟩ := hSw; go_simp; (try with_reducible rfl))
    rotate_left
    · simp only [Act.put, List.setIfInBounds_toArray, List.set_cons_zero, List.set_cons_succ]
      rfl
    refine take1_ (i := 5) (v := .agg C) (a' := ?_) (some 54) #[true, true, true, true, true, true, false, false, false, false, false] rfl rfl (by kernel_rfl) (fun _ _ _ h => h) (yieldsIf_load_mid (by rfl) 33 (.tmp 9) rfl p8 0 rfl C.toList _ (fun w h => h.1) Try.underlying33 rfl hsz) hHeld ?_ ?_
    rotate_left
    · simp only [Act.put, List.setIfInBounds_toArray, List.set_cons_zero, List.set_cons_succ]
      rfl
    refine take1_ (i := 6) (v := .agg C) (a' := ?_) (some 55) #[true, true, true, true, true, true, true, false, false, false, false] rfl rfl (by kernel_rfl) (fun _ _ _ h => h) (yieldsIf_load_mid (by rfl) 25 (.tmp 2) rfl w.heap.size 0 rfl C.toList _ (fun w h => h.2.1) Try.underlying25 rfl hsr) hHeld ?_ ?_
    rotate_left
    · simp only [Act.put, List.setIfInBounds_toArray, List.set_cons_zero, List.set_cons_succ]
      rfl
    refine loud1_ (i := 7) (some 56) #[true, true, true, true, true, true, true, true, false, false, false] rfl rfl (by kernel_rfl) (fun K hK => ?_)
    go_simp
    (go_at_call 12; refine (HLI _).out.mono ?_; rintro e w10 ⟨rfl, hb10⟩; have hnx : w10.rangeAt p8 0 C.toList ∧ w10.rangeAt w.heap.size 0 C.toList ∧ w10.heap[p5]? = some (.cells (bvs S).toArray 29 (0, 0)) ∧ Below w.heap.size w w10 := ⟨range_below hHeld.1 hb10, range_below hHeld.2.1 hb10, old_heap hHeld.2.2.1 hb10, bnext hHeld.2.2.2 hb10⟩)
    refine hK.out _ _ (by exact hnx) (fun hHeld' => ?_)
    clear hK K hHeld
    have hHeld := hHeld'
    clear hHeld'
    try simp only [Act.put, List.setIfInBounds_toArray, List.set_cons_zero, List.set_cons_succ]
    refine take1_ (i := 8) (v := ?_) (a' := ?_) (some 57) #[true, true, true, true, true, true, true, true, true, false, false] rfl rfl (by kernel_rfl) (fun _ _ _ h => h) (Or.inl ⟨by rfl, ?_⟩) hHeld ?_ ?_
    rotate_left
    · (intro w hSw; (try dsimp only at hSw); obtain ⟨hq1, hq2, hq3, hq4⟩ := hSw; go_simp; (try with_reducible rfl))
    rotate_left
    · simp only [Act.put, List.setIfInBounds_toArray, List.set_cons_zero, List.set_cons_succ]
      rfl
    refine take1_ (i := 9) (v := ?_) (a' := ?_) (some 58) #[true, true, true, true, true, true, true, true, true, true, false] rfl rfl (by kernel_rfl) (fun _ _ _ h => h) (Or.inl ⟨by rfl, ?_⟩) hHeld ?_ ?_
    rotate_left
    · (intro w hSw; (try dsimp only at hSw); obtain ⟨hq1, hq2, hq3, hq4⟩ := hSw; go_simp; (try with_reducible rfl))
    rotate_left
    · simp only [Act.put, List.setIfInBounds_toArray, List.set_cons_zero, List.set_cons_succ]
      rfl
    refine take1_ (i := 10) (v := ?_) (a' := ?_) (some 59) #[true, true, true, true, true, true, true, true, true, true, true] rfl rfl (by kernel_rfl) (fun _ _ _ h => h) (Or.inl ⟨by rfl, ?_⟩) hHeld ?_ ?_
    rotate_left
    · (intro w hSw; (try dsimp only at hSw); obtain ⟨hq1, hq2, hq3, hq4⟩ := hSw; go_simp; (try with_reducible rfl))
    rotate_left
    · simp only [Act.put, List.setIfInBounds_toArray, List.set_cons_zero, List.set_cons_succ]
      rfl
    refine wpAnyH_done (by kernel_rfl) ?_ _
    have HT10 := Lib.hid hHeld.2.2.1
    have HB10 := Lib.hid hHeld.2.2.2
    clear hHeld HQ hsz hsr heq
    have HTU' := Lib.hid (HTU _ HB10.out)
    unfold SomeS at HTU'
    go_upto_region 11 with (first
      | (refine wpList_load_row rfl 29 (.tmp 5) rfl p5 rfl _ _ _ _ HT10.out Try.underlying29 rfl (by rw [HSZ.out]; exact size_sec) ?_)
      | (go_at_call 15; go_must (refine HTU'.out.mono ?_; rintro e w11 ⟨l2, hl2, rfl, hb11⟩; unfold secV; have HL2 := Lib.hid hl2; have HZ2 : Hid ((bvs l2).toArray.size = 128) := Lib.hid (by rw [secV_size, hl2]); have HB11 := Lib.hid (bnext HB10.out hb11); clear hb11 hl2))
      | (refine wpList_store_row rfl 29 (.tmp 11) (.tmp 62) rfl w11.heap.size zArr (bvs l2).toArray 29 rfl rfl (heap_alloc_last _ _) (by rw [HZ2.out]; exact size_sec) (by rw [HZ2.out, zArr_size]) (sec_one _) ?_))
    rw [World.setRow_alloc_new]
    have hV12 := heap_alloc_last w11 (.cells (bvs l2).toArray 29 (0, 0))
    have hB12 := bnext HB11.out ((Below.refl _ _).alloc (Nat.le_refl _) (.cells (bvs l2).toArray 29 (0, 0)))
    clear HB11 HTU' HTU HT10 HB10
    revert hV12 hB12
    generalize w11.alloc (.cells (bvs l2).toArray 29 (0, 0)) = w12
    generalize w11.heap.size = p11
    intro hV12 hB12
    have HV12 := Lib.hid hV12
    have HB12 := Lib.hid hB12
    clear hV12 hB12
    have HR1 := fun W => HRI l2 HL2.out W
    have HR2 := fun W => HRR l2 HL2.out W
    unfold RrI at HR2
    have HLI2 := fun W => Lib.hid (linode_any (rinoV l2) W (rinoV_ok l2))
    have HEQ2 := fun W => Lib.hid (eq_ino W (rinoV l2) (rinoV_ok l2).len)
    have HDS : Hid ((rinoV l2).cells.toArray.size = 15) := Lib.hid (ino_size _ (rinoV_ok l2))
    have HD1 : Hid ((rinoV l2).cells.toArray.all (·.oneCell') = true) := Lib.hid (inoF_one _ _ _ _ _ _ _ _)
    unfold rinoE at HR1
    obtain ⟨ok2, hok2⟩ : ∃ ok2, rinoOk l2 = ok2 := ⟨_, rfl⟩
    obtain ⟨D, hD⟩ : ∃ D, (rinoV l2).cells.toArray = D := ⟨_, rfl⟩
    simp only [hok2, hD] at HR1 HR2 HLI2 HEQ2 HDS HD1
    clear hok2 hD HRI HRR
    go_upto_region 12 with (first
      | (refine wpList_load_row rfl 29 (.tmp 11) rfl p11 rfl _ _ _ _ HV12.out Try.underlying29 rfl (by rw [HZ2.out]; exact size_sec) ?_)
      | (go_at_call 14; go_must (refine (HR1 _).out.mono ?_; rintro e w13 ⟨rfl, hb13⟩; have HV13 := Lib.hid (old_heap HV12.out hb13); have HB13 := Lib.hid (bnext HB12.out hb13); clear hb13))
      | (refine wpList_store_row rfl 33 (.tmp 12) (.tmp 66) rfl w13.heap.size _ D 33 rfl rfl (heap_alloc_last _ _) (by rw [HDS.out]; exact infoInode) (by rw [HDS.out]; rfl) HD1.out ?_))
    rw [World.setRow_alloc_new]
    have hE14 := heap_alloc_last w13 (.cells D 33 (0, 0))
    have hb14 : Below w13.heap.size w13 (w13.alloc (.cells D 33 (0, 0))) := (Below.refl _ _).alloc (Nat.le_refl _) _
    have hV14 := old_heap HV13.out hb14
    have hB14 := bnext HB13.out hb14
    clear hb14 HV13 HB13 HV12 HB12 HR1
    revert hE14 hV14 hB14
    generalize w13.alloc (.cells D 33 (0, 0)) = w14
    generalize w13.heap.size = p13
    intro hE14 hV14 hB14
    have HE14 := Lib.hid hE14
    have HV14 := Lib.hid hV14
    have HB14 := Lib.hid hB14
    clear hE14 hV14 hB14
    go_upto_region 13 with (first
      | (refine wpList_load_row rfl 29 (.tmp 11) rfl p11 rfl _ _ _ _ HV14.out Try.underlying29 rfl (by rw [HZ2.out]; exact size_sec) ?_)
      | (go_at_call 16; go_must (refine (HR2 _).out.mono ?_; rintro e w15 ⟨rfl, hb15⟩; have HE15 := Lib.hid (old_heap HE14.out hb15); have HB15 := Lib.hid (bnext HB14.out hb15); clear hb15))
      | (refine wpList_store_row rfl 25 (.tmp 13) (.tmp 71) rfl w15.heap.size _ D 25 rfl rfl (heap_alloc_last _ _) (by rw [HDS.out]; exact infoRInode) (by rw [HDS.out]; rfl) HD1.out ?_))
    rw [World.setRow_alloc_new]
    have hF16 := heap_alloc_last w15 (.cells D 25 (0, 0))
    have hb16 : Below w15.heap.size w15 (w15.alloc (.cells D 25 (0, 0))) := (Below.refl _ _).alloc (Nat.le_refl _) _
    have hE16 := old_heap HE15.out hb16
    have hB16 := bnext HB15.out hb16
    clear hb16 HE15 HB15 HE14 HB14 HV14 HR2
    revert hF16 hE16 hB16
    generalize w15.alloc (.cells D 25 (0, 0)) = w16
    generalize w15.heap.size = p15
    intro hF16 hE16 hB16
    have HF16 := Lib.hid hF16
    have HE16 := Lib.hid hE16
    have HB16 := Lib.hid hB16
    have hq1 : w16.rangeAt p13 0 D.toList := box_range hE16
    have hq2 : w16.rangeAt p15 0 D.toList := box_range hF16
    have HQ : Hid (w16.rangeAt p13 0 D.toList ∧ w16.rangeAt p15 0 D.toList ∧ Below w.heap.size w w16) := ⟨hq1, hq2, hB16⟩
    clear hF16 hE16 hB16 hq1 hq2
    have heq2 := fun W => (HEQ2 W).out
    have hsz : (Try.prog.info? 33).map (·.size) = some D.toList.length := by rw [Array.length_toList, HDS.out]; exact infoInode
    have hsr : (Try.prog.info? 25).map (·.size) = some D.toList.length := by rw [Array.length_toList, HDS.out]; exact infoRInode
    cases ok2 with
    | true =>
      clear HE16 HF16
      refine wp_region_held_drew (S := (fun w' => w'.rangeAt p13 0 D.toList ∧ w'.rangeAt p15 0 D.toList ∧ Below w.heap.size w w')) (by kernel_rfl) (by exact ⟨HQ.out.1, HQ.out.2.1, HQ.out.2.2.drew⟩) (fun hHeld => ?_)
      refine take1_ (i := 0) (v := .agg D) (a' := ?_) (some 73) #[true, false, false, false, false, false, false, false, false, false, false, false, false, false, false, false, false, false] rfl rfl (by kernel_rfl) (fun _ _ _ h => h) (yieldsIf_load_mid (by rfl) 33 (.tmp 12) rfl p13 0 rfl D.toList _ (fun w h => h.1) Try.underlying33 rfl hsz) hHeld ?_ ?_
      rotate_left
      · simp only [Act.put, List.setIfInBounds_toArray, List.set_cons_zero, List.set_cons_succ]
        rfl
      refine take1_ (i := 1) (v := .agg D) (a' := ?_) (some 74) #[true, true, false, false, false, false, false, false, false, false, false, false, false, false, false, false, false, false] rfl rfl (by kernel_rfl) (fun _ _ _ h => h) (yieldsIf_load_mid (by rfl) 25 (.tmp 13) rfl p15 0 rfl D.toList _ (fun w h => h.2.1) Try.underlying25 rfl hsr) hHeld ?_ ?_
      rotate_left
      · simp only [Act.put, List.setIfInBounds_toArray, List.set_cons_zero, List.set_cons_succ]
        rfl
      refine loud1_ (i := 2) (some 75) #[true, true, true, false, false, false, false, false, false, false, false, false, false, false, false, false, false, false] rfl rfl (by kernel_rfl) (fun K hK => ?_)
      go_simp
      (go_at_call 12; refine (HLI2 _).out.mono ?_; rintro e w17 ⟨rfl, hb17⟩; have hnx : w17.rangeAt p13 0 D.toList ∧ w17.rangeAt p15 0 D.toList ∧ Below w.heap.size w w17 := ⟨range_below hHeld.1 hb17, range_below hHeld.2.1 hb17, bnext hHeld.2.2 hb17⟩)
      refine hK.out _ _ (by exact hnx) (fun hHeld' => ?_)
      clear hK K hHeld
      have hHeld := hHeld'
      clear hHeld'
      try simp only [Act.put, List.setIfInBounds_toArray, List.set_cons_zero, List.set_cons_succ]
      refine take1_ (i := 3) (v := ?_) (a' := ?_) (some 76) #[true, true, true, true, false, false, false, false, false, false, false, false, false, false, false, false, false, false] rfl rfl (by kernel_rfl) (fun _ _ _ h => h) (Or.inl ⟨by rfl, ?_⟩) hHeld ?_ ?_
      rotate_left
      · (intro w hSw; (try dsimp only at hSw); obtain ⟨hq1, hq2, hq3⟩ := hSw; go_simp; (try with_reducible rfl))
      rotate_left
      · simp only [Act.put, List.setIfInBounds_toArray, List.set_cons_zero, List.set_cons_succ]
        rfl
      refine take1_ (i := 4) (v := ?_) (a' := ?_) (some 77) #[true, true, true, true, true, false, false, false, false, false, false, false, false, false, false, false, false, false] rfl rfl (by kernel_rfl) (fun _ _ _ h => h) (Or.inl ⟨by rfl, ?_⟩) hHeld ?_ ?_
      rotate_left
      · (intro w hSw; (try dsimp only at hSw); obtain ⟨hq1, hq2, hq3⟩ := hSw; go_simp; (try with_reducible rfl))
      rotate_left
      · simp only [Act.put, List.setIfInBounds_toArray, List.set_cons_zero, List.set_cons_succ]
        rfl
      refine take1_ (i := 5) (v := ?_) (a' := ?_) (some 78) #[true, true, true, true, true, true, false, false, false, false, false, false, false, false, false, false, false, false] rfl rfl (by kernel_rfl) (fun _ _ _ h => h) (Or.inl ⟨by rfl, ?_⟩) hHeld ?_ ?_
      rotate_left
      · (intro w hSw; (try dsimp only at hSw); obtain ⟨hq1, hq2, hq3⟩ := hSw; go_simp; (try with_reducible rfl))
      rotate_left
      · simp only [Act.put, List.setIfInBounds_toArray, List.set_cons_zero, List.set_cons_succ]
        rfl
      refine take1_ (i := 6) (v := ?_) (a' := ?_) (some 79) #[true, true, true, true, true, true, true, false, false, false, false, false, false, false, false, false, false, false] rfl rfl (by kernel_rfl) (fun _ _ _ h => h) (Or.inl ⟨by rfl, ?_⟩) hHeld ?_ ?_
      rotate_left
      · (intro w hSw; (try dsimp only at hSw); obtain ⟨hq1, hq2, hq3⟩ := hSw; go_simp; (try with_reducible rfl))
      rotate_left
      · simp only [Act.put, List.setIfInBounds_toArray, List.set_cons_zero, List.set_cons_succ]
        rfl
      refine take1_ (i := 7) (v := ?_) (a' := ?_) (some 80) #[true, true, true, true, true, true, true, true, false, false, false, false, false, false, false, false, false, false] rfl rfl (by kernel_rfl) (fun _ _ _ h => h) (Or.inl ⟨by rfl, ?_⟩) hHeld ?_ ?_
      rotate_left
      · (intro w hSw; (try dsimp only at hSw); obtain ⟨hq1, hq2, hq3⟩ := hSw; go_simp; (try with_reducible rfl))
      rotate_left
      · simp only [Act.put, List.setIfInBounds_toArray, List.set_cons_zero, List.set_cons_succ]
        rfl
      refine take1_ (i := 8) (v := ?_) (a' := ?_) (some 81) #[true, true, true, true, true, true, true, true, true, false, false, false, false, false, false, false, false, false] rfl rfl (by kernel_rfl) (fun _ _ _ h => h) (Or.inl ⟨by rfl, ?_⟩) hHeld ?_ ?_
      rotate_left
      · (intro w hSw; (try dsimp only at hSw); obtain ⟨hq1, hq2, hq3⟩ := hSw; go_simp; (try with_reducible rfl))
      rotate_left
      · simp only [Act.put, List.setIfInBounds_toArray, List.set_cons_zero, List.set_cons_succ]
        rfl
      refine take1_ (i := 9) (v := ?_) (a' := ?_) (some 82) #[true, true, true, true, true, true, true, true, true, true, false, false, false, false, false, false, false, false] rfl rfl (by kernel_rfl) (fun _ _ _ h => h) (Or.inl ⟨by rfl, ?_⟩) hHeld ?_ ?_
      rotate_left
      · (intro w hSw; (try dsimp only at hSw); obtain ⟨hq1, hq2, hq3⟩ := hSw; go_simp; (try with_reducible rfl))
      rotate_left
      · simp only [Act.put, List.setIfInBounds_toArray, List.set_cons_zero, List.set_cons_succ]
        rfl
      refine take1_ (i := 10) (v := ?_) (a' := ?_) (some 83) #[true, true, true, true, true, true, true, true, true, true, true, false, false, false, false, false, false, false] rfl rfl (by kernel_rfl) (fun _ _ _ h => h) (Or.inl ⟨by rfl, ?_⟩) hHeld ?_ ?_
      rotate_left
      · (intro w hSw; (try dsimp only at hSw); obtain ⟨hq1, hq2, hq3⟩ := hSw; go_simp; (try with_reducible rfl))
      rotate_left
      · simp only [Act.put, List.setIfInBounds_toArray, List.set_cons_zero, List.set_cons_succ]
        rfl
      refine take1_ (i := 11) (v := ?_) (a' := ?_) (some 84) #[true, true, true, true, true, true, true, true, true, true, true, true, false, false, false, false, false, false] rfl rfl (by kernel_rfl) (fun _ _ _ h => h) (Or.inl ⟨by rfl, ?_⟩) hHeld ?_ ?_
      rotate_left
      · (intro w hSw; (try dsimp only at hSw); obtain ⟨hq1, hq2, hq3⟩ := hSw; go_simp; (try with_reducible rfl))
      rotate_left
      · simp only [Act.put, List.setIfInBounds_toArray, List.set_cons_zero, List.set_cons_succ]
        rfl
      refine take1_ (i := 12) (v := ?_) (a' := ?_) (some 85) #[true, true, true, true, true, true, true, true, true, true, true, true, true, false, false, false, false, false] rfl rfl (by kernel_rfl) (fun _ _ _ h => h) (Or.inl ⟨by rfl, ?_⟩) hHeld ?_ ?_
      rotate_left
      · (intro w hSw; (try dsimp only at hSw); obtain ⟨hq1, hq2, hq3⟩ := hSw; go_simp; (try with_reducible rfl))
      rotate_left
      · simp only [Act.put, List.setIfInBounds_toArray, List.set_cons_zero, List.set_cons_succ]
        rfl
      refine off_ (by kernel_rfl) (fun _ _ d _ _ h => by cases d <;> exact h) hHeld [13, 14] [some 86, some 87] [(85, some true)] #[true, true, true, true, true, true, true, true, true, true, true, true, true, true, true, false, false, false] 3 rfl (by kernel_rfl) (by repeat (first | exact trivial | refine ⟨by rfl, ?_⟩)) (a' := ?_) ?_ ?_
      rotate_left
      · simp only [putOff, Act.put, List.setIfInBounds_toArray, List.set_cons_zero, List.set_cons_succ]
        rfl
      refine take1_ (i := 15) (v := ?_) (a' := ?_) (some 88) #[true, true, true, true, true, true, true, true, true, true, true, true, true, true, true, true, false, false] rfl rfl (by kernel_rfl) (fun _ _ _ h => h) (Or.inl ⟨by rfl, ?_⟩) hHeld ?_ ?_
      rotate_left
      · (intro w hSw; (try dsimp only at hSw); obtain ⟨hq1, hq2, hq3⟩ := hSw; go_simp; (try with_reducible rfl))
      rotate_left
      · simp only [Act.put, List.setIfInBounds_toArray, List.set_cons_zero, List.set_cons_succ]
        rfl
      refine take1_ (i := 16) (v := ?_) (a' := ?_) (some 89) #[true, true, true, true, true, true, true, true, true, true, true, true, true, true, true, true, true, false] rfl rfl (by kernel_rfl) (fun _ _ _ h => h) (Or.inl ⟨by rfl, ?_⟩) hHeld ?_ ?_
      rotate_left
      · (intro w hSw; (try dsimp only at hSw); obtain ⟨hq1, hq2, hq3⟩ := hSw; go_simp; (try with_reducible rfl))
      rotate_left
      · simp only [Act.put, List.setIfInBounds_toArray, List.set_cons_zero, List.set_cons_succ]
        rfl
      refine take1_ (i := 17) (v := ?_) (a' := ?_) (some 4) #[true, true, true, true, true, true, true, true, true, true, true, true, true, true, true, true, true, true] rfl rfl (by kernel_rfl) (fun _ _ _ h => h) (Or.inl ⟨by rfl, ?_⟩) hHeld ?_ ?_
      rotate_left
      · (intro w hSw; (try dsimp only at hSw); obtain ⟨hq1, hq2, hq3⟩ := hSw; go_simp; (try with_reducible rfl))
      rotate_left
      · simp only [Act.put, List.setIfInBounds_toArray, List.set_cons_zero, List.set_cons_succ]
        rfl
      refine wpAnyH_done (by kernel_rfl) ?_ _
      go_wp2
      go_ret
      exact ⟨rfl, hHeld.2.2⟩
    | false =>
      clear HE16 HF16
      refine wp_region_held_drew (S := (fun w' => w'.rangeAt p13 0 D.toList ∧ w'.rangeAt p15 0 D.toList ∧ Below w.heap.size w w')) (by kernel_rfl) (by exact ⟨HQ.out.1, HQ.out.2.1, HQ.out.2.2.drew⟩) (fun hHeld => ?_)
      refine take1_ (i := 0) (v := .agg D) (a' := ?_) (some 73) #[true, false, false, false, false, false, false, false, false, false, false, false, false, false, false, false, false, false] rfl rfl (by kernel_rfl) (fun _ _ _ h => h) (yieldsIf_load_mid (by rfl) 33 (.tmp 12) rfl p13 0 rfl D.toList _ (fun w h => h.1) Try.underlying33 rfl hsz) hHeld ?_ ?_
      rotate_left
      · simp only [Act.put, List.setIfInBounds_toArray, List.set_cons_zero, List.set_cons_succ]
        rfl
      refine take1_ (i := 1) (v := .agg D) (a' := ?_) (some 74) #[true, true, false, false, false, false, false, false, false, false, false, false, false, false, false, false, false, false] rfl rfl (by kernel_rfl) (fun _ _ _ h => h) (yieldsIf_load_mid (by rfl) 25 (.tmp 13) rfl p15 0 rfl D.toList _ (fun w h => h.2.1) Try.underlying25 rfl hsr) hHeld ?_ ?_
      rotate_left
      · simp only [Act.put, List.setIfInBounds_toArray, List.set_cons_zero, List.set_cons_succ]
        rfl
      refine loud1_ (i := 2) (some 75) #[true, true, true, false, false, false, false, false, false, false, false, false, false, false, false, false, false, false] rfl rfl (by kernel_rfl) (fun K hK => ?_)
      go_simp
      (go_at_call 12; refine (HLI2 _).out.mono ?_; rintro e w17 ⟨rfl, hb17⟩; have hnx : w17.rangeAt p13 0 D.toList ∧ w17.rangeAt p15 0 D.toList ∧ Below w.heap.size w w17 := ⟨range_below hHeld.1 hb17, range_below hHeld.2.1 hb17, bnext hHeld.2.2 hb17⟩)
      refine hK.out _ _ (by exact hnx) (fun hHeld' => ?_)
      clear hK K hHeld
      have hHeld := hHeld'
      clear hHeld'
      try simp only [Act.put, List.setIfInBounds_toArray, List.set_cons_zero, List.set_cons_succ]
      refine take1_ (i := 3) (v := ?_) (a' := ?_) (some 76) #[true, true, true, true, false, false, false, false, false, false, false, false, false, false, false, false, false, false] rfl rfl (by kernel_rfl) (fun _ _ _ h => h) (Or.inl ⟨by rfl, ?_⟩) hHeld ?_ ?_
      rotate_left
      · (intro w hSw; (try dsimp only at hSw); obtain ⟨hq1, hq2, hq3⟩ := hSw; go_simp; (try with_reducible rfl))
      rotate_left
      · simp only [Act.put, List.setIfInBounds_toArray, List.set_cons_zero, List.set_cons_succ]
        rfl
      refine take1_ (i := 4) (v := ?_) (a' := ?_) (some 77) #[true, true, true, true, true, false, false, false, false, false, false, false, false, false, false, false, false, false] rfl rfl (by kernel_rfl) (fun _ _ _ h => h) (Or.inl ⟨by rfl, ?_⟩) hHeld ?_ ?_
      rotate_left
      · (intro w hSw; (try dsimp only at hSw); obtain ⟨hq1, hq2, hq3⟩ := hSw; go_simp; (try with_reducible rfl))
      rotate_left
      · simp only [Act.put, List.setIfInBounds_toArray, List.set_cons_zero, List.set_cons_succ]
        rfl
      refine take1_ (i := 5) (v := ?_) (a' := ?_) (some 78) #[true, true, true, true, true, true, false, false, false, false, false, false, false, false, false, false, false, false] rfl rfl (by kernel_rfl) (fun _ _ _ h => h) (Or.inl ⟨by rfl, ?_⟩) hHeld ?_ ?_
      rotate_left
      · (intro w hSw; (try dsimp only at hSw); obtain ⟨hq1, hq2, hq3⟩ := hSw; go_simp; (try with_reducible rfl))
      rotate_left
      · simp only [Act.put, List.setIfInBounds_toArray, List.set_cons_zero, List.set_cons_succ]
        rfl
      refine take1_ (i := 6) (v := ?_) (a' := ?_) (some 79) #[true, true, true, true, true, true, true, false, false, false, false, false, false, false, false, false, false, false] rfl rfl (by kernel_rfl) (fun _ _ _ h => h) (Or.inl ⟨by rfl, ?_⟩) hHeld ?_ ?_
      rotate_left
      · (intro w hSw; (try dsimp only at hSw); obtain ⟨hq1, hq2, hq3⟩ := hSw; go_simp; (try with_reducible rfl))
      rotate_left
      · simp only [Act.put, List.setIfInBounds_toArray, List.set_cons_zero, List.set_cons_succ]
        rfl
      refine take1_ (i := 7) (v := ?_) (a' := ?_) (some 80) #[true, true, true, true, true, true, true, true, false, false, false, false, false, false, false, false, false, false] rfl rfl (by kernel_rfl) (fun _ _ _ h => h) (Or.inl ⟨by rfl, ?_⟩) hHeld ?_ ?_
      rotate_left
      · (intro w hSw; (try dsimp only at hSw); obtain ⟨hq1, hq2, hq3⟩ := hSw; go_simp; (try with_reducible rfl))
      rotate_left
      · simp only [Act.put, List.setIfInBounds_toArray, List.set_cons_zero, List.set_cons_succ]
        rfl
      refine take1_ (i := 8) (v := ?_) (a' := ?_) (some 81) #[true, true, true, true, true, true, true, true, true, false, false, false, false, false, false, false, false, false] rfl rfl (by kernel_rfl) (fun _ _ _ h => h) (Or.inl ⟨by rfl, ?_⟩) hHeld ?_ ?_
      rotate_left
      · (intro w hSw; (try dsimp only at hSw); obtain ⟨hq1, hq2, hq3⟩ := hSw; go_simp; (try with_reducible rfl))
      rotate_left
      · simp only [Act.put, List.setIfInBounds_toArray, List.set_cons_zero, List.set_cons_succ]
        rfl
      refine take1_ (i := 9) (v := ?_) (a' := ?_) (some 82) #[true, true, true, true, true, true, true, true, true, true, false, false, false, false, false, false, false, false] rfl rfl (by kernel_rfl) (fun _ _ _ h => h) (Or.inl ⟨by rfl, ?_⟩) hHeld ?_ ?_
      rotate_left
      · (intro w hSw; (try dsimp only at hSw); obtain ⟨hq1, hq2, hq3⟩ := hSw; go_simp; (try with_reducible rfl))
      rotate_left
      · simp only [Act.put, List.setIfInBounds_toArray, List.set_cons_zero, List.set_cons_succ]
        rfl
      refine take1_ (i := 10) (v := ?_) (a' := ?_) (some 83) #[true, true, true, true, true, true, true, true, true, true, true, false, false, false, false, false, false, false] rfl rfl (by kernel_rfl) (fun _ _ _ h => h) (Or.inl ⟨by rfl, ?_⟩) hHeld ?_ ?_
      rotate_left
      · (intro w hSw; (try dsimp only at hSw); obtain ⟨hq1, hq2, hq3⟩ := hSw; go_simp; (try with_reducible rfl))
      rotate_left
      · simp only [Act.put, List.setIfInBounds_toArray, List.set_cons_zero, List.set_cons_succ]
        rfl
      refine take1_ (i := 11) (v := ?_) (a' := ?_) (some 84) #[true, true, true, true, true, true, true, true, true, true, true, true, false, false, false, false, false, false] rfl rfl (by kernel_rfl) (fun _ _ _ h => h) (Or.inl ⟨by rfl, ?_⟩) hHeld ?_ ?_
      rotate_left
      · (intro w hSw; (try dsimp only at hSw); obtain ⟨hq1, hq2, hq3⟩ := hSw; go_simp; (try with_reducible rfl))
      rotate_left
      · simp only [Act.put, List.setIfInBounds_toArray, List.set_cons_zero, List.set_cons_succ]
        rfl
      refine take1_ (i := 12) (v := ?_) (a' := ?_) (some 85) #[true, true, true, true, true, true, true, true, true, true, true, true, true, false, false, false, false, false] rfl rfl (by kernel_rfl) (fun _ _ _ h => h) (Or.inl ⟨by rfl, ?_⟩) hHeld ?_ ?_
      rotate_left
      · (intro w hSw; (try dsimp only at hSw); obtain ⟨hq1, hq2, hq3⟩ := hSw; go_simp; (try with_reducible rfl))
      rotate_left
      · simp only [Act.put, List.setIfInBounds_toArray, List.set_cons_zero, List.set_cons_succ]
        rfl
      refine take1_ (i := 13) (v := ?_) (a' := ?_) (some 86) #[true, true, true, true, true, true, true, true, true, true, true, true, true, true, false, false, false, false] rfl rfl (by kernel_rfl) (fun _ _ _ h => h) (Or.inl ⟨by rfl, ?_⟩) hHeld ?_ ?_
      rotate_left
      · (intro w hSw; (try dsimp only at hSw); obtain ⟨hq1, hq2, hq3⟩ := hSw; go_simp; (try with_reducible rfl))
      rotate_left
      · simp only [Act.put, List.setIfInBounds_toArray, List.set_cons_zero, List.set_cons_succ]
        rfl
      refine take1_ (i := 14) (v := ?_) (a' := ?_) (some 87) #[true, true, true, true, true, true, true, true, true, true, true, true, true, true, true, false, false, false] rfl rfl (by kernel_rfl) (fun _ _ _ h => h) (Or.inl ⟨by rfl, ?_⟩) hHeld ?_ ?_
      rotate_left
      · (intro w hSw; (try dsimp only at hSw); obtain ⟨hq1, hq2, hq3⟩ := hSw; go_simp; (try with_reducible rfl))
      rotate_left
      · simp only [Act.put, List.setIfInBounds_toArray, List.set_cons_zero, List.set_cons_succ]
        rfl
      refine take1_ (i := 15) (v := ?_) (a' := ?_) (some 88) #[true, true, true, true, true, true, true, true, true, true, true, true, true, true, true, true, false, false] rfl rfl (by kernel_rfl) (fun _ _ _ h => h) (Or.inl ⟨by rfl, ?_⟩) hHeld ?_ ?_
      rotate_left
      · (intro w hSw; (try dsimp only at hSw); obtain ⟨hq1, hq2, hq3⟩ := hSw; go_simp; (try with_reducible rfl))
      rotate_left
      · simp only [Act.put, List.setIfInBounds_toArray, List.set_cons_zero, List.set_cons_succ]
        rfl
      refine take1_ (i := 16) (v := ?_) (a' := ?_) (some 89) #[true, true, true, true, true, true, true, true, true, true, true, true, true, true, true, true, true, false] rfl rfl (by kernel_rfl) (fun _ _ _ h => h) (Or.inl ⟨by rfl, ?_⟩) hHeld ?_ ?_
      rotate_left
      · (intro w hSw; (try dsimp only at hSw); obtain ⟨hq1, hq2, hq3⟩ := hSw; go_simp; (try with_reducible rfl))
      rotate_left
      · simp only [Act.put, List.setIfInBounds_toArray, List.set_cons_zero, List.set_cons_succ]
        rfl
      refine take1_ (i := 17) (v := ?_) (a' := ?_) (some 4) #[true, true, true, true, true, true, true, true, true, true, true, true, true, true, true, true, true, true] rfl rfl (by kernel_rfl) (fun _ _ _ h => h) (Or.inl ⟨by rfl, ?_⟩) hHeld ?_ ?_
      rotate_left
      · (intro w hSw; (try dsimp only at hSw); obtain ⟨hq1, hq2, hq3⟩ := hSw; go_simp; (try with_reducible rfl))
      rotate_left
      · simp only [Act.put, List.setIfInBounds_toArray, List.set_cons_zero, List.set_cons_succ]
        rfl
      refine wpAnyH_done (by kernel_rfl) ?_ _
      go_wp2
      go_ret
      exact ⟨rfl, hHeld.2.2⟩
  | false =>
    have he0 : okE false = 1 := rfl
    rw [he0]
    clear he0
    have HRI1 : ∀ W, Hid (Calls Try.prog 14 #[.agg (bvs S).toArray] W fun e w' => e = .returned (.tuple #[.agg (rinoV S).cells.toArray, .int .i64 (rinoE S)]) ∧ Below W.heap.size W w') := fun W => HRI S HSL.out W
    have HE1 : Hid ((rinoV S).cells.toArray.all (·.oneCell') = true) := Lib.hid (inoF_one _ _ _ _ _ _ _ _)
    have HESZ : Hid ((rinoV S).cells.toArray.size = 15) := Lib.hid (ino_size _ (rinoV_ok S))
    obtain ⟨E, hE⟩ : ∃ E, (rinoV S).cells.toArray = E := ⟨_, rfl⟩
    obtain ⟨N9, hN9⟩ : ∃ N9, rinoE S = N9 := ⟨_, rfl⟩
    simp only [hE, hN9] at HRI1 HE1 HESZ
    clear hE hN9
    go_upto_region 8 with (first
      | (refine wpList_load_row rfl 29 (.tmp 5) rfl p5 rfl _ _ _ _ HT7.out Try.underlying29 rfl (by rw [HSZ.out]; exact size_sec) ?_)
      | (refine wpList_load_row rfl 28 (.tmp 7) rfl p7 rfl _ _ _ _ HU7.out Try.underlying28 rfl (by rw [HSZ.out]; exact size_arr) ?_)
      | (go_at_call 14; go_must (refine (HRI1 _).out.mono ?_; rintro e w8 ⟨rfl, hb8⟩; have HG8 := Lib.hid (old_heap HG7.out hb8); have HT8 := Lib.hid (old_heap HT7.out hb8); have HB8 := Lib.hid (bnext HB7.out hb8); clear hb8))
      | (refine wpList_store_row rfl 33 (.tmp 9) (.tmp 47) rfl w8.heap.size _ E 33 rfl rfl (heap_alloc_last _ _) (by rw [HESZ.out]; exact infoInode) (by rw [HESZ.out]; rfl) HE1.out ?_))
    rw [World.setRow_alloc_new]
    have hE9 := heap_alloc_last w8 (.cells E 33 (0, 0))
    have hb9 : Below w8.heap.size w8 (w8.alloc (.cells E 33 (0, 0))) := (Below.refl _ _).alloc (Nat.le_refl _) _
    have hG9 := old_heap HG8.out hb9
    have hT9 := old_heap HT8.out hb9
    have hB9 := bnext HB8.out hb9
    clear hb9 HG8 HT8 HB8 HG7 HT7 HU7 HB7 HRI1
    revert hE9 hG9 hT9 hB9
    generalize w8.alloc (.cells E 33 (0, 0)) = w9
    generalize w8.heap.size = p8
    intro hE9 hG9 hT9 hB9
    have HE9 := Lib.hid hE9
    have HG9 := Lib.hid hG9
    have HT9 := Lib.hid hT9
    have HB9 := Lib.hid hB9
    clear hE9 hG9 hT9 hB9
    go_quiet (fail)
    rename_i nq
    have HT10 : Hid ((w9.drewN nq).heap[p5]? = some (.cells (bvs S).toArray 29 (0, 0))) := HT9
    have HB10 : Hid (Below w.heap.size w (w9.drewN nq)) := Lib.hid (bdrewN HB9.out nq)
    clear HE9 HG9 HT9 HB9
    revert HT10 HB10
    generalize w9.drewN nq = w10
    intro HT10 HB10
    have HTU' := Lib.hid (HTU _ HB10.out)
    unfold SomeS at HTU'
    go_upto_region 11 with (first
      | (refine wpList_load_row rfl 29 (.tmp 5) rfl p5 rfl _ _ _ _ HT10.out Try.underlying29 rfl (by rw [HSZ.out]; exact size_sec) ?_)
      | (go_at_call 15; go_must (refine HTU'.out.mono ?_; rintro e w11 ⟨l2, hl2, rfl, hb11⟩; unfold secV; have HL2 := Lib.hid hl2; have HZ2 : Hid ((bvs l2).toArray.size = 128) := Lib.hid (by rw [secV_size, hl2]); have HB11 := Lib.hid (bnext HB10.out hb11); clear hb11 hl2))
      | (refine wpList_store_row rfl 29 (.tmp 11) (.tmp 62) rfl w11.heap.size zArr (bvs l2).toArray 29 rfl rfl (heap_alloc_last _ _) (by rw [HZ2.out]; exact size_sec) (by rw [HZ2.out, zArr_size]) (sec_one _) ?_))
    rw [World.setRow_alloc_new]
    have hV12 := heap_alloc_last w11 (.cells (bvs l2).toArray 29 (0, 0))
    have hB12 := bnext HB11.out ((Below.refl _ _).alloc (Nat.le_refl _) (.cells (bvs l2).toArray 29 (0, 0)))
    clear HB11 HTU' HTU HT10 HB10
    revert hV12 hB12
    generalize w11.alloc (.cells (bvs l2).toArray 29 (0, 0)) = w12
    generalize w11.heap.size = p11
    intro hV12 hB12
    have HV12 := Lib.hid hV12
    have HB12 := Lib.hid hB12
    clear hV12 hB12
    have HR1 := fun W => HRI l2 HL2.out W
    have HR2 := fun W => HRR l2 HL2.out W
    unfold RrI at HR2
    have HLI2 := fun W => Lib.hid (linode_any (rinoV l2) W (rinoV_ok l2))
    have HEQ2 := fun W => Lib.hid (eq_ino W (rinoV l2) (rinoV_ok l2).len)
    have HDS : Hid ((rinoV l2).cells.toArray.size = 15) := Lib.hid (ino_size _ (rinoV_ok l2))
    have HD1 : Hid ((rinoV l2).cells.toArray.all (·.oneCell') = true) := Lib.hid (inoF_one _ _ _ _ _ _ _ _)
    unfold rinoE at HR1
    obtain ⟨ok2, hok2⟩ : ∃ ok2, rinoOk l2 = ok2 := ⟨_, rfl⟩
    obtain ⟨D, hD⟩ : ∃ D, (rinoV l2).cells.toArray = D := ⟨_, rfl⟩
    simp only [hok2, hD] at HR1 HR2 HLI2 HEQ2 HDS HD1
    clear hok2 hD HRI HRR
    go_upto_region 12 with (first
      | (refine wpList_load_row rfl 29 (.tmp 11) rfl p11 rfl _ _ _ _ HV12.out Try.underlying29 rfl (by rw [HZ2.out]; exact size_sec) ?_)
      | (go_at_call 14; go_must (refine (HR1 _).out.mono ?_; rintro e w13 ⟨rfl, hb13⟩; have HV13 := Lib.hid (old_heap HV12.out hb13); have HB13 := Lib.hid (bnext HB12.out hb13); clear hb13))
      | (refine wpList_store_row rfl 33 (.tmp 12) (.tmp 66) rfl w13.heap.size _ D 33 rfl rfl (heap_alloc_last _ _) (by rw [HDS.out]; exact infoInode) (by rw [HDS.out]; rfl) HD1.out ?_))
    rw [World.setRow_alloc_new]
    have hE14 := heap_alloc_last w13 (.cells D 33 (0, 0))
    have hb14 : Below w13.heap.size w13 (w13.alloc (.cells D 33 (0, 0))) := (Below.refl _ _).alloc (Nat.le_refl _) _
    have hV14 := old_heap HV13.out hb14
    have hB14 := bnext HB13.out hb14
    clear hb14 HV13 HB13 HV12 HB12 HR1
    revert hE14 hV14 hB14
    generalize w13.alloc (.cells D 33 (0, 0)) = w14
    generalize w13.heap.size = p13
    intro hE14 hV14 hB14
    have HE14 := Lib.hid hE14
    have HV14 := Lib.hid hV14
    have HB14 := Lib.hid hB14
    clear hE14 hV14 hB14
    go_upto_region 13 with (first
      | (refine wpList_load_row rfl 29 (.tmp 11) rfl p11 rfl _ _ _ _ HV14.out Try.underlying29 rfl (by rw [HZ2.out]; exact size_sec) ?_)
      | (go_at_call 16; go_must (refine (HR2 _).out.mono ?_; rintro e w15 ⟨rfl, hb15⟩; have HE15 := Lib.hid (old_heap HE14.out hb15); have HB15 := Lib.hid (bnext HB14.out hb15); clear hb15))
      | (refine wpList_store_row rfl 25 (.tmp 13) (.tmp 71) rfl w15.heap.size _ D 25 rfl rfl (heap_alloc_last _ _) (by rw [HDS.out]; exact infoRInode) (by rw [HDS.out]; rfl) HD1.out ?_))
    rw [World.setRow_alloc_new]
    have hF16 := heap_alloc_last w15 (.cells D 25 (0, 0))
    have hb16 : Below w15.heap.size w15 (w15.alloc (.cells D 25 (0, 0))) := (Below.refl _ _).alloc (Nat.le_refl _) _
    have hE16 := old_heap HE15.out hb16
    have hB16 := bnext HB15.out hb16
    clear hb16 HE15 HB15 HE14 HB14 HV14 HR2
    revert hF16 hE16 hB16
    generalize w15.alloc (.cells D 25 (0, 0)) = w16
    generalize w15.heap.size = p15
    intro hF16 hE16 hB16
    have HF16 := Lib.hid hF16
    have HE16 := Lib.hid hE16
    have HB16 := Lib.hid hB16
    have hq1 : w16.rangeAt p13 0 D.toList := box_range hE16
    have hq2 : w16.rangeAt p15 0 D.toList := box_range hF16
    have HQ : Hid (w16.rangeAt p13 0 D.toList ∧ w16.rangeAt p15 0 D.toList ∧ Below w.heap.size w w16) := ⟨hq1, hq2, hB16⟩
    clear hF16 hE16 hB16 hq1 hq2
    have heq2 := fun W => (HEQ2 W).out
    have hsz : (Try.prog.info? 33).map (·.size) = some D.toList.length := by rw [Array.length_toList, HDS.out]; exact infoInode
    have hsr : (Try.prog.info? 25).map (·.size) = some D.toList.length := by rw [Array.length_toList, HDS.out]; exact infoRInode
    cases ok2 with
    | true =>
      clear HE16 HF16
      refine wp_region_held_drew (S := (fun w' => w'.rangeAt p13 0 D.toList ∧ w'.rangeAt p15 0 D.toList ∧ Below w.heap.size w w')) (by kernel_rfl) (by exact ⟨HQ.out.1, HQ.out.2.1, HQ.out.2.2.drew⟩) (fun hHeld => ?_)
      refine take1_ (i := 0) (v := .agg D) (a' := ?_) (some 73) #[true, false, false, false, false, false, false, false, false, false, false, false, false, false, false, false, false, false] rfl rfl (by kernel_rfl) (fun _ _ _ h => h) (yieldsIf_load_mid (by rfl) 33 (.tmp 12) rfl p13 0 rfl D.toList _ (fun w h => h.1) Try.underlying33 rfl hsz) hHeld ?_ ?_
      rotate_left
      · simp only [Act.put, List.setIfInBounds_toArray, List.set_cons_zero, List.set_cons_succ]
        rfl
      refine take1_ (i := 1) (v := .agg D) (a' := ?_) (some 74) #[true, true, false, false, false, false, false, false, false, false, false, false, false, false, false, false, false, false] rfl rfl (by kernel_rfl) (fun _ _ _ h => h) (yieldsIf_load_mid (by rfl) 25 (.tmp 13) rfl p15 0 rfl D.toList _ (fun w h => h.2.1) Try.underlying25 rfl hsr) hHeld ?_ ?_
      rotate_left
      · simp only [Act.put, List.setIfInBounds_toArray, List.set_cons_zero, List.set_cons_succ]
        rfl
      refine loud1_ (i := 2) (some 75) #[true, true, true, false, false, false, false, false, false, false, false, false, false, false, false, false, false, false] rfl rfl (by kernel_rfl) (fun K hK => ?_)
      go_simp
      (go_at_call 12; refine (HLI2 _).out.mono ?_; rintro e w17 ⟨rfl, hb17⟩; have hnx : w17.rangeAt p13 0 D.toList ∧ w17.rangeAt p15 0 D.toList ∧ Below w.heap.size w w17 := ⟨range_below hHeld.1 hb17, range_below hHeld.2.1 hb17, bnext hHeld.2.2 hb17⟩)
      refine hK.out _ _ (by exact hnx) (fun hHeld' => ?_)
      clear hK K hHeld
      have hHeld := hHeld'
      clear hHeld'
      try simp only [Act.put, List.setIfInBounds_toArray, List.set_cons_zero, List.set_cons_succ]
      refine take1_ (i := 3) (v := ?_) (a' := ?_) (some 76) #[true, true, true, true, false, false, false, false, false, false, false, false, false, false, false, false, false, false] rfl rfl (by kernel_rfl) (fun _ _ _ h => h) (Or.inl ⟨by rfl, ?_⟩) hHeld ?_ ?_
      rotate_left
      · (intro w hSw; (try dsimp only at hSw); obtain ⟨hq1, hq2, hq3⟩ := hSw; go_simp; (try with_reducible rfl))
      rotate_left
      · simp only [Act.put, List.setIfInBounds_toArray, List.set_cons_zero, List.set_cons_succ]
        rfl
      refine take1_ (i := 4) (v := ?_) (a' := ?_) (some 77) #[true, true, true, true, true, false, false, false, false, false, false, false, false, false, false, false, false, false] rfl rfl (by kernel_rfl) (fun _ _ _ h => h) (Or.inl ⟨by rfl, ?_⟩) hHeld ?_ ?_
      rotate_left
      · (intro w hSw; (try dsimp only at hSw); obtain ⟨hq1, hq2, hq3⟩ := hSw; go_simp; (try with_reducible rfl))
      rotate_left
      · simp only [Act.put, List.setIfInBounds_toArray, List.set_cons_zero, List.set_cons_succ]
        rfl
      refine take1_ (i := 5) (v := ?_) (a' := ?_) (some 78) #[true, true, true, true, true, true, false, false, false, false, false, false, false, false, false, false, false, false] rfl rfl (by kernel_rfl) (fun _ _ _ h => h) (Or.inl ⟨by rfl, ?_⟩) hHeld ?_ ?_
      rotate_left
      · (intro w hSw; (try dsimp only at hSw); obtain ⟨hq1, hq2, hq3⟩ := hSw; go_simp; (try with_reducible rfl))
      rotate_left
      · simp only [Act.put, List.setIfInBounds_toArray, List.set_cons_zero, List.set_cons_succ]
        rfl
      refine take1_ (i := 6) (v := ?_) (a' := ?_) (some 79) #[true, true, true, true, true, true, true, false, false, false, false, false, false, false, false, false, false, false] rfl rfl (by kernel_rfl) (fun _ _ _ h => h) (Or.inl ⟨by rfl, ?_⟩) hHeld ?_ ?_
      rotate_left
      · (intro w hSw; (try dsimp only at hSw); obtain ⟨hq1, hq2, hq3⟩ := hSw; go_simp; (try with_reducible rfl))
      rotate_left
      · simp only [Act.put, List.setIfInBounds_toArray, List.set_cons_zero, List.set_cons_succ]
        rfl
      refine take1_ (i := 7) (v := ?_) (a' := ?_) (some 80) #[true, true, true, true, true, true, true, true, false, false, false, false, false, false, false, false, false, false] rfl rfl (by kernel_rfl) (fun _ _ _ h => h) (Or.inl ⟨by rfl, ?_⟩) hHeld ?_ ?_
      rotate_left
      · (intro w hSw; (try dsimp only at hSw); obtain ⟨hq1, hq2, hq3⟩ := hSw; go_simp; (try with_reducible rfl))
      rotate_left
      · simp only [Act.put, List.setIfInBounds_toArray, List.set_cons_zero, List.set_cons_succ]
        rfl
      refine take1_ (i := 8) (v := ?_) (a' := ?_) (some 81) #[true, true, true, true, true, true, true, true, true, false, false, false, false, false, false, false, false, false] rfl rfl (by kernel_rfl) (fun _ _ _ h => h) (Or.inl ⟨by rfl, ?_⟩) hHeld ?_ ?_
      rotate_left
      · (intro w hSw; (try dsimp only at hSw); obtain ⟨hq1, hq2, hq3⟩ := hSw; go_simp; (try with_reducible rfl))
      rotate_left
      · simp only [Act.put, List.setIfInBounds_toArray, List.set_cons_zero, List.set_cons_succ]
        rfl
      refine take1_ (i := 9) (v := ?_) (a' := ?_) (some 82) #[true, true, true, true, true, true, true, true, true, true, false, false, false, false, false, false, false, false] rfl rfl (by kernel_rfl) (fun _ _ _ h => h) (Or.inl ⟨by rfl, ?_⟩) hHeld ?_ ?_
      rotate_left
      · (intro w hSw; (try dsimp only at hSw); obtain ⟨hq1, hq2, hq3⟩ := hSw; go_simp; (try with_reducible rfl))
      rotate_left
      · simp only [Act.put, List.setIfInBounds_toArray, List.set_cons_zero, List.set_cons_succ]
        rfl
      refine take1_ (i := 10) (v := ?_) (a' := ?_) (some 83) #[true, true, true, true, true, true, true, true, true, true, true, false, false, false, false, false, false, false] rfl rfl (by kernel_rfl) (fun _ _ _ h => h) (Or.inl ⟨by rfl, ?_⟩) hHeld ?_ ?_
      rotate_left
      · (intro w hSw; (try dsimp only at hSw); obtain ⟨hq1, hq2, hq3⟩ := hSw; go_simp; (try with_reducible rfl))
      rotate_left
      · simp only [Act.put, List.setIfInBounds_toArray, List.set_cons_zero, List.set_cons_succ]
        rfl
      refine take1_ (i := 11) (v := ?_) (a' := ?_) (some 84) #[true, true, true, true, true, true, true, true, true, true, true, true, false, false, false, false, false, false] rfl rfl (by kernel_rfl) (fun _ _ _ h => h) (Or.inl ⟨by rfl, ?_⟩) hHeld ?_ ?_
      rotate_left
      · (intro w hSw; (try dsimp only at hSw); obtain ⟨hq1, hq2, hq3⟩ := hSw; go_simp; (try with_reducible rfl))
      rotate_left
      · simp only [Act.put, List.setIfInBounds_toArray, List.set_cons_zero, List.set_cons_succ]
        rfl
      refine take1_ (i := 12) (v := ?_) (a' := ?_) (some 85) #[true, true, true, true, true, true, true, true, true, true, true, true, true, false, false, false, false, false] rfl rfl (by kernel_rfl) (fun _ _ _ h => h) (Or.inl ⟨by rfl, ?_⟩) hHeld ?_ ?_
      rotate_left
      · (intro w hSw; (try dsimp only at hSw); obtain ⟨hq1, hq2, hq3⟩ := hSw; go_simp; (try with_reducible rfl))
      rotate_left
      · simp only [Act.put, List.setIfInBounds_toArray, List.set_cons_zero, List.set_cons_succ]
        rfl
      refine off_ (by kernel_rfl) (fun _ _ d _ _ h => by cases d <;> exact h) hHeld [13, 14] [some 86, some 87] [(85, some true)] #[true, true, true, true, true, true, true, true, true, true, true, true, true, true, true, false, false, false] 3 rfl (by kernel_rfl) (by repeat (first | exact trivial | refine ⟨by rfl, ?_⟩)) (a' := ?_) ?_ ?_
      rotate_left
      · simp only [putOff, Act.put, List.setIfInBounds_toArray, List.set_cons_zero, List.set_cons_succ]
        rfl
      refine take1_ (i := 15) (v := ?_) (a' := ?_) (some 88) #[true, true, true, true, true, true, true, true, true, true, true, true, true, true, true, true, false, false] rfl rfl (by kernel_rfl) (fun _ _ _ h => h) (Or.inl ⟨by rfl, ?_⟩) hHeld ?_ ?_
      rotate_left
      · (intro w hSw; (try dsimp only at hSw); obtain ⟨hq1, hq2, hq3⟩ := hSw; go_simp; (try with_reducible rfl))
      rotate_left
      · simp only [Act.put, List.setIfInBounds_toArray, List.set_cons_zero, List.set_cons_succ]
        rfl
      refine take1_ (i := 16) (v := ?_) (a' := ?_) (some 89) #[true, true, true, true, true, true, true, true, true, true, true, true, true, true, true, true, true, false] rfl rfl (by kernel_rfl) (fun _ _ _ h => h) (Or.inl ⟨by rfl, ?_⟩) hHeld ?_ ?_
      rotate_left
      · (intro w hSw; (try dsimp only at hSw); obtain ⟨hq1, hq2, hq3⟩ := hSw; go_simp; (try with_reducible rfl))
      rotate_left
      · simp only [Act.put, List.setIfInBounds_toArray, List.set_cons_zero, List.set_cons_succ]
        rfl
      refine take1_ (i := 17) (v := ?_) (a' := ?_) (some 4) #[true, true, true, true, true, true, true, true, true, true, true, true, true, true, true, true, true, true] rfl rfl (by kernel_rfl) (fun _ _ _ h => h) (Or.inl ⟨by rfl, ?_⟩) hHeld ?_ ?_
      rotate_left
      · (intro w hSw; (try dsimp only at hSw); obtain ⟨hq1, hq2, hq3⟩ := hSw; go_simp; (try with_reducible rfl))
      rotate_left
      · simp only [Act.put, List.setIfInBounds_toArray, List.set_cons_zero, List.set_cons_succ]
        rfl
      refine wpAnyH_done (by kernel_rfl) ?_ _
      go_wp2
      go_ret
      exact ⟨rfl, hHeld.2.2⟩
    | false =>
      clear HE16 HF16
      refine wp_region_held_drew (S := (fun w' => w'.rangeAt p13 0 D.toList ∧ w'.rangeAt p15 0 D.toList ∧ Below w.heap.size w w')) (by kernel_rfl) (by exact ⟨HQ.out.1, HQ.out.2.1, HQ.out.2.2.drew⟩) (fun hHeld => ?_)
      refine take1_ (i := 0) (v := .agg D) (a' := ?_) (some 73) #[true, false, false, false, false, false, false, false, false, false, false, false, false, false, false, false, false, false] rfl rfl (by kernel_rfl) (fun _ _ _ h => h) (yieldsIf_load_mid (by rfl) 33 (.tmp 12) rfl p13 0 rfl D.toList _ (fun w h => h.1) Try.underlying33 rfl hsz) hHeld ?_ ?_
      rotate_left
      · simp only [Act.put, List.setIfInBounds_toArray, List.set_cons_zero, List.set_cons_succ]
        rfl
      refine take1_ (i := 1) (v := .agg D) (a' := ?_) (some 74) #[true, true, false, false, false, false, false, false, false, false, false, false, false, false, false, false, false, false] rfl rfl (by kernel_rfl) (fun _ _ _ h => h) (yieldsIf_load_mid (by rfl) 25 (.tmp 13) rfl p15 0 rfl D.toList _ (fun w h => h.2.1) Try.underlying25 rfl hsr) hHeld ?_ ?_
      rotate_left
      · simp only [Act.put, List.setIfInBounds_toArray, List.set_cons_zero, List.set_cons_succ]
        rfl
      refine loud1_ (i := 2) (some 75) #[true, true, true, false, false, false, false, false, false, false, false, false, false, false, false, false, false, false] rfl rfl (by kernel_rfl) (fun K hK => ?_)
      go_simp
      (go_at_call 12; refine (HLI2 _).out.mono ?_; rintro e w17 ⟨rfl, hb17⟩; have hnx : w17.rangeAt p13 0 D.toList ∧ w17.rangeAt p15 0 D.toList ∧ Below w.heap.size w w17 := ⟨range_below hHeld.1 hb17, range_below hHeld.2.1 hb17, bnext hHeld.2.2 hb17⟩)
      refine hK.out _ _ (by exact hnx) (fun hHeld' => ?_)
      clear hK K hHeld
      have hHeld := hHeld'
      clear hHeld'
      try simp only [Act.put, List.setIfInBounds_toArray, List.set_cons_zero, List.set_cons_succ]
      refine take1_ (i := 3) (v := ?_) (a' := ?_) (some 76) #[true, true, true, true, false, false, false, false, false, false, false, false, false, false, false, false, false, false] rfl rfl (by kernel_rfl) (fun _ _ _ h => h) (Or.inl ⟨by rfl, ?_⟩) hHeld ?_ ?_
      rotate_left
      · (intro w hSw; (try dsimp only at hSw); obtain ⟨hq1, hq2, hq3⟩ := hSw; go_simp; (try with_reducible rfl))
      rotate_left
      · simp only [Act.put, List.setIfInBounds_toArray, List.set_cons_zero, List.set_cons_succ]
        rfl
      refine take1_ (i := 4) (v := ?_) (a' := ?_) (some 77) #[true, true, true, true, true, false, false, false, false, false, false, false, false, false, false, false, false, false] rfl rfl (by kernel_rfl) (fun _ _ _ h => h) (Or.inl ⟨by rfl, ?_⟩) hHeld ?_ ?_
      rotate_left
      · (intro w hSw; (try dsimp only at hSw); obtain ⟨hq1, hq2, hq3⟩ := hSw; go_simp; (try with_reducible rfl))
      rotate_left
      · simp only [Act.put, List.setIfInBounds_toArray, List.set_cons_zero, List.set_cons_succ]
        rfl
      refine take1_ (i := 5) (v := ?_) (a' := ?_) (some 78) #[true, true, true, true, true, true, false, false, false, false, false, false, false, false, false, false, false, false] rfl rfl (by kernel_rfl) (fun _ _ _ h => h) (Or.inl ⟨by rfl, ?_⟩) hHeld ?_ ?_
      rotate_left
      · (intro w hSw; (try dsimp only at hSw); obtain ⟨hq1, hq2, hq3⟩ := hSw; go_simp; (try with_reducible rfl))
      rotate_left
      · simp only [Act.put, List.setIfInBounds_toArray, List.set_cons_zero, List.set_cons_succ]
        rfl
      refine take1_ (i := 6) (v := ?_) (a' := ?_) (some 79) #[true, true, true, true, true, true, true, false, false, false, false, false, false, false, false, false, false, false] rfl rfl (by kernel_rfl) (fun _ _ _ h => h) (Or.inl ⟨by rfl, ?_⟩) hHeld ?_ ?_
      rotate_left
      · (intro w hSw; (try dsimp only at hSw); obtain ⟨hq1, hq2, hq3⟩ := hSw; go_simp; (try with_reducible rfl))
      rotate_left
      · simp only [Act.put, List.setIfInBounds_toArray, List.set_cons_zero, List.set_cons_succ]
        rfl
      refine take1_ (i := 7) (v := ?_) (a' := ?_) (some 80) #[true, true, true, true, true, true, true, true, false, false, false, false, false, false, false, false, false, false] rfl rfl (by kernel_rfl) (fun _ _ _ h => h) (Or.inl ⟨by rfl, ?_⟩) hHeld ?_ ?_
      rotate_left
      · (intro w hSw; (try dsimp only at hSw); obtain ⟨hq1, hq2, hq3⟩ := hSw; go_simp; (try with_reducible rfl))
      rotate_left
      · simp only [Act.put, List.setIfInBounds_toArray, List.set_cons_zero, List.set_cons_succ]
        rfl
      refine take1_ (i := 8) (v := ?_) (a' := ?_) (some 81) #[true, true, true, true, true, true, true, true, true, false, false, false, false, false, false, false, false, false] rfl rfl (by kernel_rfl) (fun _ _ _ h => h) (Or.inl ⟨by rfl, ?_⟩) hHeld ?_ ?_
      rotate_left
      · (intro w hSw; (try dsimp only at hSw); obtain ⟨hq1, hq2, hq3⟩ := hSw; go_simp; (try with_reducible rfl))
      rotate_left
      · simp only [Act.put, List.setIfInBounds_toArray, List.set_cons_zero, List.set_cons_succ]
        rfl
      refine take1_ (i := 9) (v := ?_) (a' := ?_) (some 82) #[true, true, true, true, true, true, true, true, true, true, false, false, false, false, false, false, false, false] rfl rfl (by kernel_rfl) (fun _ _ _ h => h) (Or.inl ⟨by rfl, ?_⟩) hHeld ?_ ?_
      rotate_left
      · (intro w hSw; (try dsimp only at hSw); obtain ⟨hq1, hq2, hq3⟩ := hSw; go_simp; (try with_reducible rfl))
      rotate_left
      · simp only [Act.put, List.setIfInBounds_toArray, List.set_cons_zero, List.set_cons_succ]
        rfl
      refine take1_ (i := 10) (v := ?_) (a' := ?_) (some 83) #[true, true, true, true, true, true, true, true, true, true, true, false, false, false, false, false, false, false] rfl rfl (by kernel_rfl) (fun _ _ _ h => h) (Or.inl ⟨by rfl, ?_⟩) hHeld ?_ ?_
      rotate_left
      · (intro w hSw; (try dsimp only at hSw); obtain ⟨hq1, hq2, hq3⟩ := hSw; go_simp; (try with_reducible rfl))
      rotate_left
      · simp only [Act.put, List.setIfInBounds_toArray, List.set_cons_zero, List.set_cons_succ]
        rfl
      refine take1_ (i := 11) (v := ?_) (a' := ?_) (some 84) #[true, true, true, true, true, true, true, true, true, true, true, true, false, false, false, false, false, false] rfl rfl (by kernel_rfl) (fun _ _ _ h => h) (Or.inl ⟨by rfl, ?_⟩) hHeld ?_ ?_
      rotate_left
      · (intro w hSw; (try dsimp only at hSw); obtain ⟨hq1, hq2, hq3⟩ := hSw; go_simp; (try with_reducible rfl))
      rotate_left
      · simp only [Act.put, List.setIfInBounds_toArray, List.set_cons_zero, List.set_cons_succ]
        rfl
      refine take1_ (i := 12) (v := ?_) (a' := ?_) (some 85) #[true, true, true, true, true, true, true, true, true, true, true, true, true, false, false, false, false, false] rfl rfl (by kernel_rfl) (fun _ _ _ h => h) (Or.inl ⟨by rfl, ?_⟩) hHeld ?_ ?_
      rotate_left
      · (intro w hSw; (try dsimp only at hSw); obtain ⟨hq1, hq2, hq3⟩ := hSw; go_simp; (try with_reducible rfl))
      rotate_left
      · simp only [Act.put, List.setIfInBounds_toArray, List.set_cons_zero, List.set_cons_succ]
        rfl
      refine take1_ (i := 13) (v := ?_) (a' := ?_) (some 86) #[true, true, true, true, true, true, true, true, true, true, true, true, true, true, false, false, false, false] rfl rfl (by kernel_rfl) (fun _ _ _ h => h) (Or.inl ⟨by rfl, ?_⟩) hHeld ?_ ?_
      rotate_left
      · (intro w hSw; (try dsimp only at hSw); obtain ⟨hq1, hq2, hq3⟩ := hSw; go_simp; (try with_reducible rfl))
      rotate_left
      · simp only [Act.put, List.setIfInBounds_toArray, List.set_cons_zero, List.set_cons_succ]
        rfl
      refine take1_ (i := 14) (v := ?_) (a' := ?_) (some 87) #[true, true, true, true, true, true, true, true, true, true, true, true, true, true, true, false, false, false] rfl rfl (by kernel_rfl) (fun _ _ _ h => h) (Or.inl ⟨by rfl, ?_⟩) hHeld ?_ ?_
      rotate_left
      · (intro w hSw; (try dsimp only at hSw); obtain ⟨hq1, hq2, hq3⟩ := hSw; go_simp; (try with_reducible rfl))
      rotate_left
      · simp only [Act.put, List.setIfInBounds_toArray, List.set_cons_zero, List.set_cons_succ]
        rfl
      refine take1_ (i := 15) (v := ?_) (a' := ?_) (some 88) #[true, true, true, true, true, true, true, true, true, true, true, true, true, true, true, true, false, false] rfl rfl (by kernel_rfl) (fun _ _ _ h => h) (Or.inl ⟨by rfl, ?_⟩) hHeld ?_ ?_
      rotate_left
      · (intro w hSw; (try dsimp only at hSw); obtain ⟨hq1, hq2, hq3⟩ := hSw; go_simp; (try with_reducible rfl))
      rotate_left
      · simp only [Act.put, List.setIfInBounds_toArray, List.set_cons_zero, List.set_cons_succ]
        rfl
      refine take1_ (i := 16) (v := ?_) (a' := ?_) (some 89) #[true, true, true, true, true, true, true, true, true, true, true, true, true, true, true, true, true, false] rfl rfl (by kernel_rfl) (fun _ _ _ h => h) (Or.inl ⟨by rfl, ?_⟩) hHeld ?_ ?_
      rotate_left
      · (intro w hSw; (try dsimp only at hSw); obtain ⟨hq1, hq2, hq3⟩ := hSw; go_simp; (try with_reducible rfl))
      rotate_left
      · simp only [Act.put, List.setIfInBounds_toArray, List.set_cons_zero, List.set_cons_succ]
        rfl
      refine take1_ (i := 17) (v := ?_) (a' := ?_) (some 4) #[true, true, true, true, true, true, true, true, true, true, true, true, true, true, true, true, true, true] rfl rfl (by kernel_rfl) (fun _ _ _ h => h) (Or.inl ⟨by rfl, ?_⟩) hHeld ?_ ?_
      rotate_left
      · (intro w hSw; (try dsimp only at hSw); obtain ⟨hq1, hq2, hq3⟩ := hSw; go_simp; (try with_reducible rfl))
      rotate_left
      · simp only [Act.put, List.setIfInBounds_toArray, List.set_cons_zero, List.set_cons_succ]
        rfl
      refine wpAnyH_done (by kernel_rfl) ?_ _
      go_wp2
      go_ret
      exact ⟨rfl, hHeld.2.2⟩
end Go.Proofs.Ytlcbfpcabalgcaa
