/-
  Codec: a sector turned: some sector.
-/
import Derived.Test.YtlcbfpcabalgcaaCodN
import Derived.Test.YtlcbfpcabalgcaaRegF
import Derived.StillTailTactics
namespace Go.Proofs.Ytlcbfpcabalgcaa
open Go.RowKit
set_option linter.unusedVariables false
set_option linter.unusedSimpArgs false
set_option linter.unnecessarySimpa false
/-- Some sector comes back. -/
def SomeS (w : World) (e : Ending) (w' : World) : Prop := ∃ l : List UInt8, l.length = 128 ∧ e = .returned (secV l) ∧ Below w.heap.size w w'
theorem set_sec {w : World} {g : Nat} {T : TypeId} {l : List UInt8} (h : w.heap[g]? = some (.cells (bvs l).toArray T (0, 0))) (i : Nat) (x : UInt8) : (w.setCell ⟨g, i, none⟩ (.int .u8 (x.toNat : Int))).heap[g]? = some (.cells (bvs (l.set i x)).toArray T (0, 0)) := by
  have := head_set h i (bval x)
  rw [List.setIfInBounds_toArray, bvs_set] at this
  exact this
theorem cast_shr (c k : Nat) : ((UInt8.ofNat (c / 2 ^ k % 256)).toNat : Int) = (c : Int) / 2 ^ k % 256 := by
  have h : (UInt8.ofNat (c / 2 ^ k % 256)).toNat = c / 2 ^ k % 256 := by simp
  rw [h]
  simp
set_option maxRecDepth 10000 in
set_option maxHeartbeats 8000000 in
theorem turn_any (l : List UInt8) (v : Value) (b : List UInt8) (w : World) (hl : l.length = 128) (hn : b.length ≤ 140737488355328) (hv : Byt w v b) :
    Calls Try.prog 15 #[secV l, v] w (SomeS w) := by
  have hb2 : Below w.heap.size w ((w.alloc (.cells (bvs l).toArray 29 (0, 0))).alloc (.cells Try.zeroCells29 29 (0, 0))) := ((Below.refl _ _).alloc (Nat.le_refl _) _).alloc (by simp) _
  have hG2 := old_heap (heap_alloc_last w (.cells (bvs l).toArray 29 (0, 0))) ((Below.refl _ _).alloc (Nat.le_refl _) (.cells Try.zeroCells29 29 (0, 0)))
  have hT2 := heap_alloc_last (w.alloc (.cells (bvs l).toArray 29 (0, 0))) (.cells Try.zeroCells29 29 (0, 0))
  rw [show (w.alloc (.cells (bvs l).toArray 29 (0, 0))).heap.size = w.heap.size + 1 by simp] at hT2
  have HB2 := Lib.hid hb2
  have HG2 := Lib.hid hG2
  have HT2 := Lib.hid hT2
  have HV := Lib.hid hv
  have HL := Lib.hid hl
  have hfm := hv
  obtain ⟨sp, c, rfl, _⟩ := hv.form
  clear hb2 hG2 hT2 hv hl hfm
  unfold secV
  go_enter Try.func15, Try.ntmps15
  go_wp2
  revert HB2 HG2 HT2
  generalize (w.alloc (.cells (bvs l).toArray 29 (0, 0))).alloc (.cells Try.zeroCells29 29 (0, 0)) = w2
  intro HB2 HG2 HT2
  go_loopw [5] (fun i wr => ∃ (k : Nat) (m : List UInt8), k ≤ 4 ∧ i = .int .i64 ((2 * k : Nat) : Int) ∧ Hid (m.length = 128) ∧ Hid (wr.heap[w.heap.size]? = some (.cells (bvs m).toArray 29 (0, 0))) ∧ Hid (wr.heap[w.heap.size + 1]? = some (.cells Try.zeroCells29 29 (0, 0))) ∧ Hid (Below w.heap.size w wr)) (fun i _ => (8 - intOf i).toNat)
  case atStart => exact ⟨0, l, by omega, rfl, HL, HG2, HT2, HB2⟩
  case round =>
    obtain ⟨k, m, hk, rfl, HM, HG, HT, HB⟩ := hrel
    clear HL HG2 HT2 HB2
    obtain ⟨a, ha⟩ : ∃ a, 2 * k = a := ⟨_, rfl⟩
    rw [ha]
    have HA := Lib.hid ha
    have ha8 : a ≤ 8 := by omega
    have ha2 : a < 8 → k < 4 := by omega
    clear ha
    by_cases hlt : a + 1 < b.length ∧ a < 8
    · obtain ⟨hlt1, hlt2⟩ := hlt
      go_upto_region 4 with fail
      have hrd : ∃ bb o2, sp = some ⟨bb, o2, none⟩ ∧ b.length ≤ c ∧ RdB wr bb o2 b := by
        rcases HV.out.below HB.out with ⟨h', _⟩ | ⟨bb, o2, c', he, h2, h3, h4⟩
        · rw [h'] at hlt1; simp at hlt1
        · injection he with e1 e2 e3; subst e1; subst e3
          exact ⟨bb, o2, rfl, h2, h4⟩
      obtain ⟨bb, o2, rfl, hc, hr⟩ := hrd
      obtain ⟨x, hx⟩ : ∃ x, b.getD a 0 = x := ⟨_, rfl⟩
      obtain ⟨y, hy⟩ : ∃ y, b.getD (a + 1) 0 = y := ⟨_, rfl⟩
      have e0 : wr.cell? ⟨bb, o2 + a, none⟩ = some (.int .u8 (x.toNat : Int)) := by rw [← hx]; exact hr a (by omega)
      have e1 : wr.cell? ⟨bb, o2 + (a + 1), none⟩ = some (.int .u8 (y.toNat : Int)) := by rw [← hy]; exact hr (a + 1) hlt1
      have hx8 := x.toNat_lt
      obtain ⟨r, hr0⟩ : ∃ r, x.toNat % 122 = r := ⟨_, rfl⟩
      obtain ⟨n, hn0⟩ : ∃ n, x.toNat = n := ⟨_, rfl⟩
      rw [hn0] at e0 hr0 hx8
      have hr8 : r < 122 := by omega
      have hcv : IntKind.i64.wrap (n : Int) = (n : Int) := IntWalk.i64_in _ (by omega)
      have hrem : Int.tmod (n : Int) 122 = (r : Int) := by rw [Int.tmod_eq_emod_of_nonneg (by omega)]; omega
      have hsum : IntKind.i64.wrap (2 + (r : Int)) = 2 + (r : Int) := IntWalk.i64_in _ (by omega)
      have hsa : IntKind.i64.wrap ((a : Int) + 1) = (a : Int) + 1 := IntWalk.i64_in _ (by omega)
      have hin : ((2 : Int) + (r : Int)).toNat = 2 + r := by omega
      have hp0 : (0 : Int) ≤ 2 + (r : Int) := by omega
      have hp1 : (2 : Int) + (r : Int) < 128 := by omega
      have hia : ((a : Int) + 1).toNat = a + 1 := by omega
      have hpa : (0 : Int) ≤ (a : Int) + 1 := by omega
      have hpb : (a : Int) + 1 < (b.length : Int) := by omega
      have hpc : (a : Int) < (b.length : Int) := by omega
      have e2 : wr.cell? ⟨w.heap.size, 2 + r, none⟩ = some (.int .u8 ((m.getD (2 + r) 0).toNat : Int)) := by
        rw [cell_row HG.out, List.getElem?_toArray, bvs_get m _ (by rw [HM.out]; omega)]
      have e3 : wr.frozen? ⟨w.heap.size, 2 + r, none⟩ = false := free_row HG.out _
      have HS : Hid (wr.cell? ⟨bb, o2 + a, none⟩ = some (.int .u8 (n : Int)) ∧ wr.cell? ⟨bb, o2 + (a + 1), none⟩ = some (.int .u8 (y.toNat : Int)) ∧ wr.cell? ⟨w.heap.size, 2 + r, none⟩ = some (.int .u8 ((m.getD (2 + r) 0).toNat : Int)) ∧ wr.frozen? ⟨w.heap.size, 2 + r, none⟩ = false) := ⟨e0, e1, e2, e3⟩
      have HN0 := Lib.hid hn0
      clear e0 e1 e2 e3 hx hy hr hr0 hn0
      refine wp_region_F (S := (fun w' => w'.cell? ⟨bb, o2 + a, none⟩ = some (.int .u8 (n : Int)) ∧ w'.cell? ⟨bb, o2 + (a + 1), none⟩ = some (.int .u8 (y.toNat : Int)) ∧ w'.cell? ⟨w.heap.size, 2 + r, none⟩ = some (.int .u8 ((m.getD (2 + r) 0).toNat : Int)) ∧ w'.frozen? ⟨w.heap.size, 2 + r, none⟩ = false)) 13 (by kernel_rfl) (by exact HS.out) (fun hHeld => ?_)
      refine take1F (i := 0) (v := ?_) (a' := ?_) (some 19) #[true, false, false, false, false, false, false, false, false, false, false, false, false, false] rfl rfl (by kernel_rfl) (fun _ _ _ h => h) (Or.inl ⟨by rfl, ?_⟩) hHeld ?_ ?_
      rotate_left
      · (intro w hSw; (try dsimp only at hSw); obtain ⟨e0, e1, e2, e3⟩ := hSw; go_simp; (try with_reducible rfl))
      rotate_left
      · simp only [Act.put, List.setIfInBounds_toArray, List.set_cons_zero, List.set_cons_succ]
        rfl
      refine take1F (i := 1) (v := ?_) (a' := ?_) (some 20) #[true, true, false, false, false, false, false, false, false, false, false, false, false, false] rfl rfl (by kernel_rfl) (fun _ _ _ h => h) (Or.inl ⟨by rfl, ?_⟩) hHeld ?_ ?_
      rotate_left
      · (intro w hSw; (try dsimp only at hSw); obtain ⟨e0, e1, e2, e3⟩ := hSw; go_simp; (try with_reducible rfl))
      rotate_left
      · simp only [Act.put, List.setIfInBounds_toArray, List.set_cons_zero, List.set_cons_succ]
        rfl
      refine take1F (i := 2) (v := ?_) (a' := ?_) (some 21) #[true, true, true, false, false, false, false, false, false, false, false, false, false, false] rfl rfl (by kernel_rfl) (fun _ _ _ h => h) (Or.inl ⟨by rfl, ?_⟩) hHeld ?_ ?_
      rotate_left
      · (intro w hSw; (try dsimp only at hSw); obtain ⟨e0, e1, e2, e3⟩ := hSw; go_simp; (try with_reducible rfl))
      rotate_left
      · simp only [Act.put, List.setIfInBounds_toArray, List.set_cons_zero, List.set_cons_succ]
        rfl
      refine take1F (i := 3) (v := ?_) (a' := ?_) (some 22) #[true, true, true, true, false, false, false, false, false, false, false, false, false, false] rfl rfl (by kernel_rfl) (fun _ _ _ h => h) (Or.inl ⟨by rfl, ?_⟩) hHeld ?_ ?_
      rotate_left
      · (intro w hSw; (try dsimp only at hSw); obtain ⟨e0, e1, e2, e3⟩ := hSw; go_simp; (try with_reducible rfl))
      rotate_left
      · simp only [Act.put, List.setIfInBounds_toArray, List.set_cons_zero, List.set_cons_succ]
        rfl
      refine take1F (i := 4) (v := ?_) (a' := ?_) (some 23) #[true, true, true, true, true, false, false, false, false, false, false, false, false, false] rfl rfl (by kernel_rfl) (fun _ _ _ h => h) (Or.inl ⟨by rfl, ?_⟩) hHeld ?_ ?_
      rotate_left
      · (intro w hSw; (try dsimp only at hSw); obtain ⟨e0, e1, e2, e3⟩ := hSw; go_simp; (try with_reducible rfl))
      rotate_left
      · simp only [Act.put, List.setIfInBounds_toArray, List.set_cons_zero, List.set_cons_succ]
        rfl
      refine take1F (i := 5) (v := ?_) (a' := ?_) (some 24) #[true, true, true, true, true, true, false, false, false, false, false, false, false, false] rfl rfl (by kernel_rfl) (fun _ _ _ h => h) (Or.inl ⟨by rfl, ?_⟩) hHeld ?_ ?_
      rotate_left
      · (intro w hSw; (try dsimp only at hSw); obtain ⟨e0, e1, e2, e3⟩ := hSw; go_simp; (try with_reducible rfl))
      rotate_left
      · simp only [Act.put, List.setIfInBounds_toArray, List.set_cons_zero, List.set_cons_succ]
        rfl
      refine take1F (i := 6) (v := ?_) (a' := ?_) (some 25) #[true, true, true, true, true, true, true, false, false, false, false, false, false, false] rfl rfl (by kernel_rfl) (fun _ _ _ h => h) (Or.inl ⟨by rfl, ?_⟩) hHeld ?_ ?_
      rotate_left
      · (intro w hSw; (try dsimp only at hSw); obtain ⟨e0, e1, e2, e3⟩ := hSw; go_simp; (try with_reducible rfl))
      rotate_left
      · simp only [Act.put, List.setIfInBounds_toArray, List.set_cons_zero, List.set_cons_succ]
        rfl
      refine take1F (i := 7) (v := ?_) (a' := ?_) (some 26) #[true, true, true, true, true, true, true, true, false, false, false, false, false, false] rfl rfl (by kernel_rfl) (fun _ _ _ h => h) (Or.inl ⟨by rfl, ?_⟩) hHeld ?_ ?_
      rotate_left
      · (intro w hSw; (try dsimp only at hSw); obtain ⟨e0, e1, e2, e3⟩ := hSw; go_simp; (try with_reducible rfl))
      rotate_left
      · simp only [Act.put, List.setIfInBounds_toArray, List.set_cons_zero, List.set_cons_succ]
        rfl
      refine take1F (i := 8) (v := ?_) (a' := ?_) (some 27) #[true, true, true, true, true, true, true, true, true, false, false, false, false, false] rfl rfl (by kernel_rfl) (fun _ _ _ h => h) (Or.inl ⟨by rfl, ?_⟩) hHeld ?_ ?_
      rotate_left
      · (intro w hSw; (try dsimp only at hSw); obtain ⟨e0, e1, e2, e3⟩ := hSw; go_simp; (try with_reducible rfl))
      rotate_left
      · simp only [Act.put, List.setIfInBounds_toArray, List.set_cons_zero, List.set_cons_succ]
        rfl
      refine take1F (i := 9) (v := ?_) (a' := ?_) (some 28) #[true, true, true, true, true, true, true, true, true, true, false, false, false, false] rfl rfl (by kernel_rfl) (fun _ _ _ h => h) (Or.inl ⟨by rfl, ?_⟩) hHeld ?_ ?_
      rotate_left
      · (intro w hSw; (try dsimp only at hSw); obtain ⟨e0, e1, e2, e3⟩ := hSw; go_simp; (try with_reducible rfl))
      rotate_left
      · simp only [Act.put, List.setIfInBounds_toArray, List.set_cons_zero, List.set_cons_succ]
        rfl
      refine take1F (i := 10) (v := ?_) (a' := ?_) (some 29) #[true, true, true, true, true, true, true, true, true, true, true, false, false, false] rfl rfl (by kernel_rfl) (fun _ _ _ h => h) (Or.inl ⟨by rfl, ?_⟩) hHeld ?_ ?_
      rotate_left
      · (intro w hSw; (try dsimp only at hSw); obtain ⟨e0, e1, e2, e3⟩ := hSw; go_simp; (try with_reducible rfl))
      rotate_left
      · simp only [Act.put, List.setIfInBounds_toArray, List.set_cons_zero, List.set_cons_succ]
        rfl
      refine take1F (i := 11) (v := ?_) (a' := ?_) (some 30) #[true, true, true, true, true, true, true, true, true, true, true, true, false, false] rfl rfl (by kernel_rfl) (fun _ _ _ h => h) (Or.inl ⟨by rfl, ?_⟩) hHeld ?_ ?_
      rotate_left
      · (intro w hSw; (try dsimp only at hSw); obtain ⟨e0, e1, e2, e3⟩ := hSw; go_simp; (try with_reducible rfl))
      rotate_left
      · simp only [Act.put, List.setIfInBounds_toArray, List.set_cons_zero, List.set_cons_succ]
        rfl
      refine take1F (i := 12) (v := ?_) (a' := ?_) (some 31) #[true, true, true, true, true, true, true, true, true, true, true, true, true, false] rfl rfl (by kernel_rfl) (fun _ _ _ h => h) (Or.inl ⟨by rfl, ?_⟩) hHeld ?_ ?_
      rotate_left
      · (intro w hSw; (try dsimp only at hSw); obtain ⟨e0, e1, e2, e3⟩ := hSw; go_simp; (try with_reducible rfl))
      rotate_left
      · simp only [Act.put, List.setIfInBounds_toArray, List.set_cons_zero, List.set_cons_succ]
        rfl
      refine last1F (none) #[true, true, true, true, true, true, true, true, true, true, true, true, true, true] rfl rfl (by kernel_rfl) (fun K hK => ?_)
      (obtain ⟨e0, e1, e2, e3⟩ := hHeld; go_simp)
      refine hK.out _ _ ?_
      clear hK K
      try simp only [Act.put, List.setIfInBounds_toArray, List.set_cons_zero, List.set_cons_succ]
      refine wpAnyF_done (by kernel_rfl) ?_ _
      have HG3 : Hid (((wr.setCell ⟨w.heap.size, 2 + r, none⟩ (.int .u8 (y.toNat : Int))).drew).heap[w.heap.size]? = some (.cells (bvs (m.set (2 + r) y)).toArray 29 (0, 0))) := Lib.hid (set_sec HG.out _ _)
      have HM3 : Hid ((m.set (2 + r) y).length = 128) := Lib.hid (by rw [List.length_set]; exact HM.out)
      have HT3 : Hid (((wr.setCell ⟨w.heap.size, 2 + r, none⟩ (.int .u8 (y.toNat : Int))).drew).heap[w.heap.size + 1]? = some (.cells Try.zeroCells29 29 (0, 0))) := Lib.hid ((Below.heap_setCell wr ⟨w.heap.size, 2 + r, none⟩ _ (w.heap.size + 1) (by show w.heap.size + 1 ≠ w.heap.size; omega)).trans HT.out)
      have HB3 : Hid (Below w.heap.size w ((wr.setCell ⟨w.heap.size, 2 + r, none⟩ (.int .u8 (y.toNat : Int))).drew)) := Lib.hid (HB.out.setCell (p := ⟨w.heap.size, 2 + r, none⟩) (Nat.le_refl _) _).drew
      clear hcv hrem hsum hsa hin hp0 hp1 hia hpa hpb hpc HS
      go_wp2
      go_roundw
      case rel => exact ⟨k + 1, m.set (2 + r) y, by have := ha2 hlt2; omega, by rw [show 2 * (k + 1) = a + 2 by rw [← HA.out]; omega]; go_num, HM3, HG3, HT3, HB3⟩
      case measure => simp [intOf]; omega
    · have hrd : RdB wr w.heap.size 0 m := RdB.row HG.out (fun i hi => by rw [Nat.zero_add, List.getElem?_toArray, bvs_get _ _ hi])
      have hbt := byt_take (c := 128) hrd (by rw [HM.out]; omega) (by decide) 124 (by rw [HM.out]; omega)
      have HC := Lib.hid (rcrc_any (.slice (some ⟨w.heap.size, 0, none⟩) 124 128) (m.take 124) wr (by rw [List.length_take]; omega) hbt)
      obtain ⟨cc, hcc⟩ : ∃ cc, crc (m.take 124) = cc := ⟨_, rfl⟩
      rw [hcc] at HC
      have hcl : cc < 4294967296 := by rw [← hcc]; exact crc_lt _
      clear hrd hbt hcc
      have hcut : ∀ G : Prop, (b.length ≤ a + 1 → G) → (a + 1 < b.length → 8 ≤ a → G) → G := fun G p q => by
        by_cases h1 : b.length ≤ a + 1
        · exact p h1
        · exact q (by omega) (by omega)
      clear hlt ha2
      refine hcut _ ?_ ?_ <;> clear hcut <;> intros
      all_goals
        go_upto_region 6 with (go_at_call 51; refine HC.out.mono ?_; rintro e wq ⟨rfl, rfl⟩)
        obtain ⟨wo, rfl⟩ : ∃ wo : World, wo = wr := ⟨_, rfl⟩
        go_wp2
        go_loopw [7] (fun i wr => ∃ (k : Nat) (m : List UInt8), k ≤ 4 ∧ i = .int .i64 (k : Int) ∧ Hid (m.length = 128) ∧ Hid (wr.heap[w.heap.size]? = some (.cells (bvs m).toArray 29 (0, 0))) ∧ Hid (wr.heap[w.heap.size + 1]? = some (.cells Try.zeroCells29 29 (0, 0))) ∧ Hid (Below w.heap.size w wr)) (fun i _ => (4 - intOf i).toNat)
        case atStart => exact ⟨0, m, by omega, rfl, HM, HG, HT, HB⟩
        case round =>
          obtain ⟨k2, m2, hk2, rfl, HM2, HG2, HT2, HB2⟩ := hrel
          by_cases hlt : k2 < 4
          · go_upto_region 9 with fail
            have f2 : wr.frozen? ⟨w.heap.size, 124 + k2, none⟩ = false := free_row HG2.out _
            have e2 : wr.cell? ⟨w.heap.size, 124 + k2, none⟩ = some (.int .u8 ((m2.getD (124 + k2) 0).toNat : Int)) := by
              rw [cell_row HG2.out, List.getElem?_toArray, bvs_get m2 _ (by rw [HM2.out]; omega)]
            have hy := cast_shr cc (8 * k2)
            obtain ⟨y, hyy⟩ : ∃ y, UInt8.ofNat (cc / 2 ^ (8 * k2) % 256) = y := ⟨_, rfl⟩
            rw [hyy] at hy
            have HY := Lib.hid hy
            clear hy hyy
            go_wp2
            rw [← HY.out]
            have HG3 : Hid ((wr.setCell ⟨w.heap.size, 124 + k2, none⟩ (.int .u8 (y.toNat : Int))).heap[w.heap.size]? = some (.cells (bvs (m2.set (124 + k2) y)).toArray 29 (0, 0))) := Lib.hid (set_sec HG2.out _ _)
            have HM3 : Hid ((m2.set (124 + k2) y).length = 128) := Lib.hid (by rw [List.length_set]; exact HM2.out)
            have HT3 : Hid ((wr.setCell ⟨w.heap.size, 124 + k2, none⟩ (.int .u8 (y.toNat : Int))).heap[w.heap.size + 1]? = some (.cells Try.zeroCells29 29 (0, 0))) := Lib.hid ((Below.heap_setCell wr ⟨w.heap.size, 124 + k2, none⟩ _ (w.heap.size + 1) (by show w.heap.size + 1 ≠ w.heap.size; omega)).trans HT2.out)
            have HB3 : Hid (Below w.heap.size w (wr.setCell ⟨w.heap.size, 124 + k2, none⟩ (.int .u8 (y.toNat : Int)))) := Lib.hid (HB2.out.setCell (p := ⟨w.heap.size, 124 + k2, none⟩) (Nat.le_refl _) _)
            go_roundw
            case rel => exact ⟨k2 + 1, m2.set (124 + k2) y, by omega, by go_num, HM3, HG3, HT3, HB3⟩
            case measure => simp [intOf]; omega
          · have hsz : (bvs m2).toArray.size = 128 := by rw [secV_size, HM2.out]
            have HSZ := Lib.hid hsz
            clear hsz
            go_wp2_with (first
              | (refine wpList_load_row rfl 29 (.tmp 2) rfl w.heap.size rfl _ _ _ _ HG2.out Try.underlying29 rfl (by rw [HSZ.out]; exact size_sec) ?_)
              | (refine wpList_store_row rfl 29 (.tmp 4) (.tmp 46) rfl (w.heap.size + 1) zArr (bvs m2).toArray 29 rfl rfl HT2.out (by rw [HSZ.out]; exact size_sec) (by rw [HSZ.out, zArr_size]) (sec_one _) ?_))
            have hld := run_loadVar_row (P := Try.prog) (wr.setRow (w.heap.size + 1) (bvs m2).toArray) (w.heap.size + 1) 29 29 (bvs m2).toArray (0, 0) _ (setRow_heap _ _ _ _ _ _ HT2.out) Try.underlying29 (by simp) (by rw [HSZ.out]; exact size_sec)
            exact bodyPost_ret (results_cell1 Try.results15 rfl hld) rfl ⟨m2, HM2.out, rfl, below_row HB2.out (by omega)⟩
end Go.Proofs.Ytlcbfpcabalgcaa
