/-
  DirentFills: the walk.
-/
import Derived.Test.YtcgfhpgjaibmhaaDirO
import Derived.Test.YtcgfhpgjaibmhaaDirN
import Derived.Deep.QuietTactic
import Derived.BigQuiet
namespace Go.Proofs.Ytcgfhpgjaibmhaa
open Go.RowKit
set_option linter.unusedVariables false
set_option linter.unusedSimpArgs false
theorem at8s_below {p : Nat} {n0 n1 n2 n3 : Int} {t0 t1 t2 t3 : ByteArray} {a : Addr} {v : Value} {w w' : World} (h : At8 p n0 n1 n2 n3 t0 t1 t2 t3 w ∧ w.cell? a = some v) (hb : Below w.heap.size w w') : At8 p n0 n1 n2 n3 t0 t1 t2 t3 w' ∧ w'.cell? a = some v := ⟨h.1.below hb, by rw [hb.cell (World.block_lt_of_cell? w _ h.2)]; exact h.2⟩
theorem str_cells {w : World} {b o n : Nat} {L : List ByteArray} {i : Nat} {s : ByteArray} (h : ∀ i, i < L.length → w.cell? ⟨b, o + i, none⟩ = some (.string (L.getD i .empty))) (hi : i < L.length) (hs : L.getD i .empty = s) : w.cell? ⟨b, o + i, none⟩ = some (.string s) := by rw [h i hi, hs]
set_option maxHeartbeats 8000000 in
set_option maxRecDepth 10000 in
theorem direntFills_walk (A : Option Addr) (c : Nat) (L : List ByteArray) (w : World) (hL : L.length ≤ 140737488351232) (hs9 : ∀ i, i < L.length → (L.getD i .empty).size ≤ 9223372036854775807) (hv : StrAt w A L) :
    Calls Try.prog 7 #[.slice A L.length c] w (RetT w true) := by
  have HV := Lib.hid hv
  have HS9 := Lib.hid hs9
  have HL := Lib.hid hL
  have hz := zero_sec
  clear hv hs9 hL
  go_enter Try.func7, Try.ntmps7
  go_upto_region 4 with (first
    | (go_at_call 8; go_must (refine (awake06 _).mono ?_; rintro e w1 ⟨rfl, hb1⟩; have HB1 := Lib.hid hb1; clear hb1)))
  have hT := heap_alloc_last w1 (.cells #[.int .i64 0, .string ⟨#[]⟩, .int .i64 0, .string ⟨#[]⟩, .int .i64 0, .string ⟨#[]⟩, .int .i64 0, .string ⟨#[]⟩] 31 (0, 0))
  have hB := HB1.out.alloc HB1.out.size (.cells #[.int .i64 0, .string ⟨#[]⟩, .int .i64 0, .string ⟨#[]⟩, .int .i64 0, .string ⟨#[]⟩, .int .i64 0, .string ⟨#[]⟩] 31 (0, 0))
  have hp : w.heap.size ≤ w1.heap.size := HB1.out.size
  revert hT hB hp
  generalize w1.alloc (.cells #[.int .i64 0, .string ⟨#[]⟩, .int .i64 0, .string ⟨#[]⟩, .int .i64 0, .string ⟨#[]⟩, .int .i64 0, .string ⟨#[]⟩] 31 (0, 0)) = w2
  generalize w1.heap.size = p3
  intro hT hB hp
  have HT2 := Lib.hid hT
  have HB2 := Lib.hid hB
  have HP := Lib.hid hp
  clear hT hB hp HB1
  go_wp2
  go_loopw [4, 5] (fun nv iv wr => ∃ (n i : Nat), n ≤ 4 ∧ n ≤ i ∧ i ≤ 12 ∧ i ≤ L.length ∧ nv = .int .i64 (n : Int) ∧ iv = .int .i64 (i : Int) ∧ ∃ (n0 n1 n2 n3 : Int) (t0 t1 t2 t3 : ByteArray), Hid (FillAt (entsL n0 n1 n2 n3 t0 t1 t2 t3) n) ∧ Hid (wr.heap[p3]? = some (.cells #[.int .i64 n0, .string t0, .int .i64 n1, .string t1, .int .i64 n2, .string t2, .int .i64 n3, .string t3] 31 (0, 0))) ∧ Hid (Below w.heap.size w wr)) (fun _ iv _ => (12 - intOf iv).toNat)
  case atStart => exact ⟨0, 0, by omega, by omega, by omega, by omega, by rfl, by rfl, 0, 0, 0, 0, ⟨#[]⟩, ⟨#[]⟩, ⟨#[]⟩, ⟨#[]⟩, Lib.hid fill_zero, HT2, HB2⟩
  case round =>
    obtain ⟨n, i, hn4, hni, hi12, hiL, rfl, rfl, n0, n1, n2, n3, t0, t1, t2, t3, HF, HT, HB⟩ := hrel
    clear HT2 HB2
    by_cases hlt : i < L.length ∧ i < 12
    · obtain ⟨hi1, hi2⟩ := hlt
      obtain ⟨b, o, hA, hc⟩ := HV.out (fun e => by rw [e] at hi1; exact absurd hi1 (Nat.not_lt_zero _))
      obtain ⟨s, hs⟩ : ∃ s, L.getD i .empty = s := ⟨_, rfl⟩
      have hcs := str_cells (n := 0) hc hi1 hs
      have hs9 := HS9.out i hi1
      rw [hs] at hs9
      have HCS := Lib.hid hcs
      subst hA
      clear hc hs hcs
      have hR := fun w' => room_any n0 n1 n2 n3 t0 t1 t2 t3 w'
      have hC := fun w' => count_any n0 n1 n2 n3 t0 t1 t2 t3 w'
      rw [fill_room HF.out hn4] at hR
      rw [fill_count HF.out hn4] at hC
      have HG := fun w' => Lib.hid (rgood_any s w' hs9)
      obtain ⟨ge, hge⟩ : ∃ ge, ge = goodE s.data.toList := ⟨_, rfl⟩
      rw [← hge] at HG
      have HGE := Lib.hid hge
      unfold entsV at hR hC
      clear hge hs9
      have hc9 : Hid (∀ W, Below w.heap.size w W → W.cell? ⟨b, o + i, none⟩ = some (.string s)) := fun W hb => by rw [hb.cell (World.block_lt_of_cell? w _ HCS.out)]; exact HCS.out
      have hnc : n = 0 ∨ n = 1 ∨ n = 2 ∨ n = 3 ∨ n = 4 := by omega
      rcases hnc with rfl | rfl | rfl | rfl | rfl
      · have hR' : ∀ w', Hid (Calls Try.prog 13 #[.agg #[.int .i64 n0, .string t0, .int .i64 n1, .string t1, .int .i64 n2, .string t2, .int .i64 n3, .string t3]] w' (RetN w' 0)) := fun w' => Lib.hid (hR w')
        have hC' : ∀ w', Hid (Calls Try.prog 14 #[.agg #[.int .i64 n0, .string t0, .int .i64 n1, .string t1, .int .i64 n2, .string t2, .int .i64 n3, .string t3]] w' (RetN w' 0)) := fun w' => Lib.hid (hC w')
        clear hR hC
        go_upto_region 11 with (first
          | (refine wpList_load_row rfl 31 (.tmp 3) rfl p3 rfl _ _ _ _ HT.out Try.underlying31 rfl size_ents ?_)
          | (go_at_call 13; go_must (refine (hR' _).out.mono ?_; rintro e w3 ⟨rfl, hb3⟩; replace HT := Lib.hid (heap_keep HT.out hb3); replace HB := Lib.hid (bnext HB.out hb3); clear hb3))
          | (go_at_call 14; go_must (refine (hC' _).out.mono ?_; rintro e w4 ⟨rfl, hb4⟩; replace HT := Lib.hid (heap_keep HT.out hb4); replace HB := Lib.hid (bnext HB.out hb4); clear hb4)))
        clear hR' hC'
        have c4 := hc9.out w4 HB.out
        by_cases hgd : ge = 0
        · subst hgd
          have HFN : Hid (FillAt (entsL (1 + (i : Int)) n1 n2 n3 s t1 t2 t3) (0 + 1)) := Lib.hid (fill_set HF.out ⟨by show (1 : Int) ≤ 1 + (i : Int); omega, by show 1 + (i : Int) ≤ 12; omega, HGE.out.symm⟩ (fun j hj hne => by
            have : j = 0 ∨ j = 1 ∨ j = 2 ∨ j = 3 := by omega
            rcases this with rfl | rfl | rfl | rfl <;> first | rfl | exact absurd rfl hne))
          have hst : (w4.setCell ⟨p3, 2 * 0, none⟩ (.int .i64 (1 + (i : Int)))).setCell ⟨p3, 2 * 0 + 1, none⟩ (.string s) = w4.setRow p3 #[.int .i64 (1 + (i : Int)), .string s, .int .i64 n1, .string t1, .int .i64 n2, .string t2, .int .i64 n3, .string t3] := by
            rw [setCell_row HT.out, setRow_setCell HT.out]; rfl
          simp only [Nat.reduceMul, Nat.reduceAdd] at hst
          have HST := Lib.hid hst
          have d0 : w4.cell? ⟨p3, 0, none⟩ = some (.int .i64 n0) := cell_row HT.out _
          have d1 : w4.cell? ⟨p3, 1, none⟩ = some (.string t0) := cell_row HT.out _
          have e0 : w4.frozen? ⟨p3, 0, none⟩ = false := free_row HT.out _
          have e1 : w4.frozen? ⟨p3, 1, none⟩ = false := free_row HT.out _
          have hwi : wrap64 (1 + (i : Int)) = 1 + (i : Int) := by rw [← i64_w]; exact IntWalk.i64_in _ (by omega)
          clear hst
          go_upto_region 13 with (first
            | (go_at_call 10; go_must (refine (HG _).out.mono ?_; rintro e w5 ⟨rfl, rfl⟩)))
          rw [HST.out]
          have hT := setRow_heap w4 _ _ #[.int .i64 (1 + (i : Int)), .string s, .int .i64 n1, .string t1, .int .i64 n2, .string t2, .int .i64 n3, .string t3] _ _ HT.out
          have hB : Below w.heap.size w (w4.setRow p3 #[.int .i64 (1 + (i : Int)), .string s, .int .i64 n1, .string t1, .int .i64 n2, .string t2, .int .i64 n3, .string t3]) := HB.out.trans ⟨rfl, rfl, rfl, by rw [setRow_size]; exact Nat.le_refl _, fun k hk => setRow_other _ _ _ _ (by have := HP.out; omega)⟩
          revert hT hB
          clear HT HB c4 d0 d1 e0 e1 HST HG hc9
          generalize w4.setRow p3 #[.int .i64 (1 + (i : Int)), .string s, .int .i64 n1, .string t1, .int .i64 n2, .string t2, .int .i64 n3, .string t3] = w5
          intro hT hB
          obtain ⟨f1, f2, f3, f4⟩ := fill_back (1 + (i : Int)) n1 n2 n3 s t1 t2 t3 (0 + 1) HFN.out
          obtain ⟨k, hk, f5, f6⟩ := fill_find HFN.out (by decide) s rfl
          have hW := fun w' => dwrite_any (1 + (i : Int)) n1 n2 n3 s t1 t2 t3 w'
          have hRD := fun w' => dread_any (dwS (entsL (1 + (i : Int)) n1 n2 n3 s t1 t2 t3)) w' f4
          have hFI := fun w' => find_any (1 + (i : Int)) n1 n2 n3 s t1 t2 t3 s w'
          change ∀ w', Calls _ _ _ w' (fun e w'' => e = .returned (.tuple #[secV (dwS (entsL (1 + (i : Int)) n1 n2 n3 s t1 t2 t3)), .int .i64 (dwE (entsL (1 + (i : Int)) n1 n2 n3 s t1 t2 t3))]) ∧ _) at hW
          rw [f1] at hW
          rw [f2, f3] at hRD
          rw [f5] at hFI
          obtain ⟨l, hl⟩ : ∃ l, l = dwS (entsL (1 + (i : Int)) n1 n2 n3 s t1 t2 t3) := ⟨_, rfl⟩
          rw [← hl] at hW hRD f4
          have hl2 : (bvs l).toArray.size = 128 := by rw [secV_size, f4]
          unfold secV entsV at hW hRD
          unfold entsV at hFI
          have HW := fun w' => Lib.hid (hW w')
          have HRD := fun w' => Lib.hid (hRD w')
          have HFI := fun w' => Lib.hid (hFI w')
          have HL2 := Lib.hid hl2
          have HF6 := Lib.hid f6
          have HT5 := Lib.hid hT
          have HB5 := Lib.hid hB
          have hEQ : ∀ W : World, (Op.equalIn 10000 31 (.agg #[.int .i64 (1 + (i : Int)), .string s, .int .i64 n1, .string t1, .int .i64 n2, .string t2, .int .i64 n3, .string t3]) (.agg #[.int .i64 (1 + (i : Int)), .string s, .int .i64 n1, .string t1, .int .i64 n2, .string t2, .int .i64 n3, .string t3])).run Try.prog W = .ok true W := fun W => equal_ents W (1 + (i : Int)) n1 n2 n3 s t1 t2 t3
          clear hW hRD hFI f1 f2 f3 f4 f5 f6 hl hl2 hT hB
          go_upto_region 15 with (first
            | (refine wpList_load_row rfl 31 (.tmp 3) rfl p3 rfl _ _ _ _ HT5.out Try.underlying31 rfl size_ents ?_)
            | (refine wpList_store_row rfl 37 (.tmp 7) (.tmp 70) rfl w6.heap.size zArr (bvs l).toArray 37 rfl rfl (heap_alloc_last _ _) (by rw [HL2.out]; exact size_sec) (by rw [HL2.out, zArr_size]) (sec_one _) ?_)
            | (go_at_call 15; go_must (refine (HW w5).out.mono ?_; rintro e w6 ⟨rfl, hb6⟩; have HT6 := Lib.hid (heap_keep HT5.out hb6); have HB6 := Lib.hid (bnext HB5.out hb6); clear hb6)))
          rw [World.setRow_alloc_new]
          have hA := (Below.refl w6.heap.size w6).alloc (Nat.le_refl _) (.cells (bvs l).toArray 37 (0, 0))
          have hS := heap_alloc_last w6 (.cells (bvs l).toArray 37 (0, 0))
          have hB := HB6.out.alloc HB6.out.size (.cells (bvs l).toArray 37 (0, 0))
          have hT := heap_keep HT6.out hA
          clear hA
          revert hS hB hT
          generalize w6.alloc (.cells (bvs l).toArray 37 (0, 0)) = w7
          generalize w6.heap.size = p7
          intro hS hB hT
          have HS7 := Lib.hid hS
          have HB7 := Lib.hid hB
          have HT7 := Lib.hid hT
          clear hS hB hT HT5 HB5 HT6 HB6 HW
          go_upto_region 16 with (first
            | (refine wpList_load_row rfl 37 (.tmp 7) rfl p7 rfl _ _ _ _ HS7.out Try.underlying37 rfl (by rw [HL2.out]; exact size_sec) ?_)
            | (refine wpList_store_row rfl 31 (.tmp 9) (.tmp 75) rfl w8.heap.size #[.int .i64 0, .string ⟨#[]⟩, .int .i64 0, .string ⟨#[]⟩, .int .i64 0, .string ⟨#[]⟩, .int .i64 0, .string ⟨#[]⟩] #[.int .i64 (1 + (i : Int)), .string s, .int .i64 n1, .string t1, .int .i64 n2, .string t2, .int .i64 n3, .string t3] 31 rfl rfl (heap_alloc_last _ _) size_ents rfl (by simp [Value.oneCell']) ?_)
            | (go_at_call 17; go_must (refine (HRD w7).out.mono ?_; rintro e w8 ⟨rfl, hb8⟩; have HT8 := Lib.hid (heap_keep HT7.out hb8); have HB8 := Lib.hid (bnext HB7.out hb8); clear hb8)))
          rw [World.setRow_alloc_new]
          have hA := (Below.refl w8.heap.size w8).alloc (Nat.le_refl _) (.cells #[.int .i64 (1 + (i : Int)), .string s, .int .i64 n1, .string t1, .int .i64 n2, .string t2, .int .i64 n3, .string t3] 31 (0, 0))
          have hS := heap_alloc_last w8 (.cells #[.int .i64 (1 + (i : Int)), .string s, .int .i64 n1, .string t1, .int .i64 n2, .string t2, .int .i64 n3, .string t3] 31 (0, 0))
          have hB := HB8.out.alloc HB8.out.size (.cells #[.int .i64 (1 + (i : Int)), .string s, .int .i64 n1, .string t1, .int .i64 n2, .string t2, .int .i64 n3, .string t3] 31 (0, 0))
          have hT := heap_keep HT8.out hA
          clear hA
          revert hS hB hT
          generalize w8.alloc (.cells #[.int .i64 (1 + (i : Int)), .string s, .int .i64 n1, .string t1, .int .i64 n2, .string t2, .int .i64 n3, .string t3] 31 (0, 0)) = w9
          generalize w8.heap.size = p9
          intro hS hB hT
          have HS9' := Lib.hid hS
          have HB9 := Lib.hid hB
          have HT9 := Lib.hid hT
          have hc10 : Hid (∀ W, Below w.heap.size w W → W.cell? ⟨b, o + i, none⟩ = some (.string s)) := fun W hb => by rw [hb.cell (World.block_lt_of_cell? w _ HCS.out)]; exact HCS.out
          have hS16 : At8 p3 (1 + (i : Int)) n1 n2 n3 s t1 t2 t3 w9.drew ∧ w9.drew.cell? ⟨b, o + i, none⟩ = some (.string s) := ⟨At8.row (w := w9.drew) hT, hc10.out w9 hB⟩
          clear hS hB hT HS7 HB7 HT7 HT8 HB8 HRD
          refine wp_region_held_drew (S := (fun w' => At8 p3 (1 + (i : Int)) n1 n2 n3 s t1 t2 t3 w' ∧ w'.cell? ⟨b, o + i, none⟩ = some (.string s))) (by kernel_rfl) (by exact hS16) (fun hHeld => ?_)
          refine take1_ (i := 0) (v := ?_) (a' := ?_) (some 77) #[true, false, false, false, false, false, false] rfl rfl (by kernel_rfl) (fun _ _ _ h => h) (Or.inl ⟨by rfl, ?_⟩) hHeld ?_ ?_
          rotate_left
          · (intro w hSw; (try dsimp only at hSw); obtain ⟨⟨a0, a1, a2, a3, a4, a5, a6, a7⟩, b0⟩ := hSw; go_simp; (try with_reducible rfl))
          rotate_left
          · simp only [Act.put, List.setIfInBounds_toArray, List.set_cons_zero, List.set_cons_succ]
            rfl
          refine take1_ (i := 1) (v := ?_) (a' := ?_) (some 78) #[true, true, false, false, false, false, false] rfl rfl (by kernel_rfl) (fun _ _ _ h => h) (Or.inl ⟨by rfl, ?_⟩) hHeld ?_ ?_
          rotate_left
          · (intro w hSw; (try dsimp only at hSw); obtain ⟨⟨a0, a1, a2, a3, a4, a5, a6, a7⟩, b0⟩ := hSw; go_simp; (try with_reducible rfl))
          rotate_left
          · simp only [Act.put, List.setIfInBounds_toArray, List.set_cons_zero, List.set_cons_succ]
            rfl
          refine take1_ (i := 2) (v := ?_) (a' := ?_) (some 79) #[true, true, true, false, false, false, false] rfl rfl (by kernel_rfl) (fun _ _ _ h => h) (Or.inl ⟨by rfl, ?_⟩) hHeld ?_ ?_
          rotate_left
          · (intro w hSw; (try dsimp only at hSw); obtain ⟨⟨a0, a1, a2, a3, a4, a5, a6, a7⟩, b0⟩ := hSw; go_simp; (try with_reducible rfl))
          rotate_left
          · simp only [Act.put, List.setIfInBounds_toArray, List.set_cons_zero, List.set_cons_succ]
            rfl
          refine take1_ (i := 3) (v := ?_) (a' := ?_) (some 80) #[true, true, true, true, false, false, false] rfl rfl (by kernel_rfl) (fun _ _ _ h => h) (Or.inl ⟨by rfl, ?_⟩) hHeld ?_ ?_
          rotate_left
          · (intro w hSw; (try dsimp only at hSw); obtain ⟨⟨a0, a1, a2, a3, a4, a5, a6, a7⟩, b0⟩ := hSw; go_simp; (try with_reducible rfl))
          rotate_left
          · simp only [Act.put, List.setIfInBounds_toArray, List.set_cons_zero, List.set_cons_succ]
            rfl
          refine take1_ (i := 4) (v := ?_) (a' := ?_) (some 81) #[true, true, true, true, true, false, false] rfl rfl (by kernel_rfl) (fun _ _ _ h => h) (Or.inl ⟨by rfl, ?_⟩) hHeld ?_ ?_
          rotate_left
          · (intro w hSw; (try dsimp only at hSw); obtain ⟨⟨a0, a1, a2, a3, a4, a5, a6, a7⟩, b0⟩ := hSw; go_simp; (try with_reducible rfl))
          rotate_left
          · simp only [Act.put, List.setIfInBounds_toArray, List.set_cons_zero, List.set_cons_succ]
            rfl
          refine loud1_ (i := 5) (some 82) #[true, true, true, true, true, true, false] rfl rfl (by kernel_rfl) (fun K hK => ?_)
          go_simp
          (go_at_call 12; refine (HFI _).out.mono ?_; rintro e x1 ⟨rfl, k1⟩)
          refine hK.out _ _ (by exact at8s_below ‹_› ‹_›) (fun hHeld' => ?_)
          clear hK K hHeld
          have hHeld := hHeld'
          clear hHeld'
          try simp only [Act.put, List.setIfInBounds_toArray, List.set_cons_zero, List.set_cons_succ]
          refine take1_ (i := 6) (v := ?_) (a' := ?_) (some 11) #[true, true, true, true, true, true, true] rfl rfl (by kernel_rfl) (fun _ _ _ h => h) (Or.inl ⟨by rfl, ?_⟩) hHeld ?_ ?_
          rotate_left
          · (intro w hSw; (try dsimp only at hSw); obtain ⟨⟨a0, a1, a2, a3, a4, a5, a6, a7⟩, b0⟩ := hSw; go_simp; (try with_reducible rfl))
          rotate_left
          · simp only [Act.put, List.setIfInBounds_toArray, List.set_cons_zero, List.set_cons_succ]
            rfl
          refine wpAnyH_done (by kernel_rfl) ?_ _
          have hT := heap_keep (w := w9.drew) HT9.out k1
          have hS := heap_keep (w := w9.drew) HS9'.out k1
          have hB : Below w.heap.size w x1 := bnext HB9.out.drew k1
          have c10 := hc10.out x1 hB
          have HTX := Lib.hid hT
          have HBX := Lib.hid hB
          have h6 : x1.cell? ⟨p3, k * 2 + 1, none⟩ = some (.string s) := by
            have := ((entsAt_row hT) k (by omega)).2
            rw [HF6.out] at this
            exact this
          obtain ⟨a0, a1, a2, a3, a4, a5, a6, a7, b0, b1, b2, b3, b4, b5, b6, b7⟩ := cells16 hT hS
          clear hT hS hB hS16 k1 HFI HS9' HT9 HB9
          have hk4 : (k : Int) < 4 := by omega
          have hkn : ¬ ((0 : Int) < (k : Int)) := by omega
          have hkn' : (k : Int) ≤ 0 := by omega
          have hk0 : (0 : Int) ≤ (k : Int) := by omega
          have hkz : ¬ ((k : Int) < 0) := by omega
          go_upto_region 17 with fail
          go_quiet (fail)
          go_wp2
          refine ⟨⟨0 + 1, i + 1, by omega, by omega, by omega, by omega, by rfl, by go_num, (1 + (i : Int)), n1, n2, n3, s, t1, t2, t3, HFN, Lib.hid HTX.out, Lib.hid (bdrewN HBX.out _)⟩, by simp [intOf]; omega⟩
        · have hg0 : (ge == 0) = false := by simpa using hgd
          go_wp2_with (first
            | (go_at_call 10; go_must (refine (HG _).out.mono ?_; rintro e w5 ⟨rfl, rfl⟩)))
          refine ⟨⟨0, i + 1, by omega, by omega, by omega, by omega, by rfl, by go_num, n0, n1, n2, n3, t0, t1, t2, t3, HF, HT, HB⟩, by simp [intOf]; omega⟩
      · have hR' : ∀ w', Hid (Calls Try.prog 13 #[.agg #[.int .i64 n0, .string t0, .int .i64 n1, .string t1, .int .i64 n2, .string t2, .int .i64 n3, .string t3]] w' (RetN w' 1)) := fun w' => Lib.hid (hR w')
        have hC' : ∀ w', Hid (Calls Try.prog 14 #[.agg #[.int .i64 n0, .string t0, .int .i64 n1, .string t1, .int .i64 n2, .string t2, .int .i64 n3, .string t3]] w' (RetN w' 1)) := fun w' => Lib.hid (hC w')
        clear hR hC
        go_upto_region 11 with (first
          | (refine wpList_load_row rfl 31 (.tmp 3) rfl p3 rfl _ _ _ _ HT.out Try.underlying31 rfl size_ents ?_)
          | (go_at_call 13; go_must (refine (hR' _).out.mono ?_; rintro e w3 ⟨rfl, hb3⟩; replace HT := Lib.hid (heap_keep HT.out hb3); replace HB := Lib.hid (bnext HB.out hb3); clear hb3))
          | (go_at_call 14; go_must (refine (hC' _).out.mono ?_; rintro e w4 ⟨rfl, hb4⟩; replace HT := Lib.hid (heap_keep HT.out hb4); replace HB := Lib.hid (bnext HB.out hb4); clear hb4)))
        clear hR' hC'
        have c4 := hc9.out w4 HB.out
        by_cases hgd : ge = 0
        · subst hgd
          have HFN : Hid (FillAt (entsL n0 (1 + (i : Int)) n2 n3 t0 s t2 t3) (1 + 1)) := Lib.hid (fill_set HF.out ⟨by show (1 : Int) ≤ 1 + (i : Int); omega, by show 1 + (i : Int) ≤ 12; omega, HGE.out.symm⟩ (fun j hj hne => by
            have : j = 0 ∨ j = 1 ∨ j = 2 ∨ j = 3 := by omega
            rcases this with rfl | rfl | rfl | rfl <;> first | rfl | exact absurd rfl hne))
          have hst : (w4.setCell ⟨p3, 2 * 1, none⟩ (.int .i64 (1 + (i : Int)))).setCell ⟨p3, 2 * 1 + 1, none⟩ (.string s) = w4.setRow p3 #[.int .i64 n0, .string t0, .int .i64 (1 + (i : Int)), .string s, .int .i64 n2, .string t2, .int .i64 n3, .string t3] := by
            rw [setCell_row HT.out, setRow_setCell HT.out]; rfl
          simp only [Nat.reduceMul, Nat.reduceAdd] at hst
          have HST := Lib.hid hst
          have d0 : w4.cell? ⟨p3, 2, none⟩ = some (.int .i64 n1) := cell_row HT.out _
          have d1 : w4.cell? ⟨p3, 3, none⟩ = some (.string t1) := cell_row HT.out _
          have e0 : w4.frozen? ⟨p3, 2, none⟩ = false := free_row HT.out _
          have e1 : w4.frozen? ⟨p3, 3, none⟩ = false := free_row HT.out _
          have hwi : wrap64 (1 + (i : Int)) = 1 + (i : Int) := by rw [← i64_w]; exact IntWalk.i64_in _ (by omega)
          clear hst
          go_upto_region 13 with (first
            | (go_at_call 10; go_must (refine (HG _).out.mono ?_; rintro e w5 ⟨rfl, rfl⟩)))
          rw [HST.out]
          have hT := setRow_heap w4 _ _ #[.int .i64 n0, .string t0, .int .i64 (1 + (i : Int)), .string s, .int .i64 n2, .string t2, .int .i64 n3, .string t3] _ _ HT.out
          have hB : Below w.heap.size w (w4.setRow p3 #[.int .i64 n0, .string t0, .int .i64 (1 + (i : Int)), .string s, .int .i64 n2, .string t2, .int .i64 n3, .string t3]) := HB.out.trans ⟨rfl, rfl, rfl, by rw [setRow_size]; exact Nat.le_refl _, fun k hk => setRow_other _ _ _ _ (by have := HP.out; omega)⟩
          revert hT hB
          clear HT HB c4 d0 d1 e0 e1 HST HG hc9
          generalize w4.setRow p3 #[.int .i64 n0, .string t0, .int .i64 (1 + (i : Int)), .string s, .int .i64 n2, .string t2, .int .i64 n3, .string t3] = w5
          intro hT hB
          obtain ⟨f1, f2, f3, f4⟩ := fill_back n0 (1 + (i : Int)) n2 n3 t0 s t2 t3 (1 + 1) HFN.out
          obtain ⟨k, hk, f5, f6⟩ := fill_find HFN.out (by decide) s rfl
          have hW := fun w' => dwrite_any n0 (1 + (i : Int)) n2 n3 t0 s t2 t3 w'
          have hRD := fun w' => dread_any (dwS (entsL n0 (1 + (i : Int)) n2 n3 t0 s t2 t3)) w' f4
          have hFI := fun w' => find_any n0 (1 + (i : Int)) n2 n3 t0 s t2 t3 s w'
          change ∀ w', Calls _ _ _ w' (fun e w'' => e = .returned (.tuple #[secV (dwS (entsL n0 (1 + (i : Int)) n2 n3 t0 s t2 t3)), .int .i64 (dwE (entsL n0 (1 + (i : Int)) n2 n3 t0 s t2 t3))]) ∧ _) at hW
          rw [f1] at hW
          rw [f2, f3] at hRD
          rw [f5] at hFI
          obtain ⟨l, hl⟩ : ∃ l, l = dwS (entsL n0 (1 + (i : Int)) n2 n3 t0 s t2 t3) := ⟨_, rfl⟩
          rw [← hl] at hW hRD f4
          have hl2 : (bvs l).toArray.size = 128 := by rw [secV_size, f4]
          unfold secV entsV at hW hRD
          unfold entsV at hFI
          have HW := fun w' => Lib.hid (hW w')
          have HRD := fun w' => Lib.hid (hRD w')
          have HFI := fun w' => Lib.hid (hFI w')
          have HL2 := Lib.hid hl2
          have HF6 := Lib.hid f6
          have HT5 := Lib.hid hT
          have HB5 := Lib.hid hB
          have hEQ : ∀ W : World, (Op.equalIn 10000 31 (.agg #[.int .i64 n0, .string t0, .int .i64 (1 + (i : Int)), .string s, .int .i64 n2, .string t2, .int .i64 n3, .string t3]) (.agg #[.int .i64 n0, .string t0, .int .i64 (1 + (i : Int)), .string s, .int .i64 n2, .string t2, .int .i64 n3, .string t3])).run Try.prog W = .ok true W := fun W => equal_ents W n0 (1 + (i : Int)) n2 n3 t0 s t2 t3
          clear hW hRD hFI f1 f2 f3 f4 f5 f6 hl hl2 hT hB
          go_upto_region 15 with (first
            | (refine wpList_load_row rfl 31 (.tmp 3) rfl p3 rfl _ _ _ _ HT5.out Try.underlying31 rfl size_ents ?_)
            | (refine wpList_store_row rfl 37 (.tmp 7) (.tmp 70) rfl w6.heap.size zArr (bvs l).toArray 37 rfl rfl (heap_alloc_last _ _) (by rw [HL2.out]; exact size_sec) (by rw [HL2.out, zArr_size]) (sec_one _) ?_)
            | (go_at_call 15; go_must (refine (HW w5).out.mono ?_; rintro e w6 ⟨rfl, hb6⟩; have HT6 := Lib.hid (heap_keep HT5.out hb6); have HB6 := Lib.hid (bnext HB5.out hb6); clear hb6)))
          rw [World.setRow_alloc_new]
          have hA := (Below.refl w6.heap.size w6).alloc (Nat.le_refl _) (.cells (bvs l).toArray 37 (0, 0))
          have hS := heap_alloc_last w6 (.cells (bvs l).toArray 37 (0, 0))
          have hB := HB6.out.alloc HB6.out.size (.cells (bvs l).toArray 37 (0, 0))
          have hT := heap_keep HT6.out hA
          clear hA
          revert hS hB hT
          generalize w6.alloc (.cells (bvs l).toArray 37 (0, 0)) = w7
          generalize w6.heap.size = p7
          intro hS hB hT
          have HS7 := Lib.hid hS
          have HB7 := Lib.hid hB
          have HT7 := Lib.hid hT
          clear hS hB hT HT5 HB5 HT6 HB6 HW
          go_upto_region 16 with (first
            | (refine wpList_load_row rfl 37 (.tmp 7) rfl p7 rfl _ _ _ _ HS7.out Try.underlying37 rfl (by rw [HL2.out]; exact size_sec) ?_)
            | (refine wpList_store_row rfl 31 (.tmp 9) (.tmp 75) rfl w8.heap.size #[.int .i64 0, .string ⟨#[]⟩, .int .i64 0, .string ⟨#[]⟩, .int .i64 0, .string ⟨#[]⟩, .int .i64 0, .string ⟨#[]⟩] #[.int .i64 n0, .string t0, .int .i64 (1 + (i : Int)), .string s, .int .i64 n2, .string t2, .int .i64 n3, .string t3] 31 rfl rfl (heap_alloc_last _ _) size_ents rfl (by simp [Value.oneCell']) ?_)
            | (go_at_call 17; go_must (refine (HRD w7).out.mono ?_; rintro e w8 ⟨rfl, hb8⟩; have HT8 := Lib.hid (heap_keep HT7.out hb8); have HB8 := Lib.hid (bnext HB7.out hb8); clear hb8)))
          rw [World.setRow_alloc_new]
          have hA := (Below.refl w8.heap.size w8).alloc (Nat.le_refl _) (.cells #[.int .i64 n0, .string t0, .int .i64 (1 + (i : Int)), .string s, .int .i64 n2, .string t2, .int .i64 n3, .string t3] 31 (0, 0))
          have hS := heap_alloc_last w8 (.cells #[.int .i64 n0, .string t0, .int .i64 (1 + (i : Int)), .string s, .int .i64 n2, .string t2, .int .i64 n3, .string t3] 31 (0, 0))
          have hB := HB8.out.alloc HB8.out.size (.cells #[.int .i64 n0, .string t0, .int .i64 (1 + (i : Int)), .string s, .int .i64 n2, .string t2, .int .i64 n3, .string t3] 31 (0, 0))
          have hT := heap_keep HT8.out hA
          clear hA
          revert hS hB hT
          generalize w8.alloc (.cells #[.int .i64 n0, .string t0, .int .i64 (1 + (i : Int)), .string s, .int .i64 n2, .string t2, .int .i64 n3, .string t3] 31 (0, 0)) = w9
          generalize w8.heap.size = p9
          intro hS hB hT
          have HS9' := Lib.hid hS
          have HB9 := Lib.hid hB
          have HT9 := Lib.hid hT
          have hc10 : Hid (∀ W, Below w.heap.size w W → W.cell? ⟨b, o + i, none⟩ = some (.string s)) := fun W hb => by rw [hb.cell (World.block_lt_of_cell? w _ HCS.out)]; exact HCS.out
          have hS16 : At8 p3 n0 (1 + (i : Int)) n2 n3 t0 s t2 t3 w9.drew ∧ w9.drew.cell? ⟨b, o + i, none⟩ = some (.string s) := ⟨At8.row (w := w9.drew) hT, hc10.out w9 hB⟩
          clear hS hB hT HS7 HB7 HT7 HT8 HB8 HRD
          refine wp_region_held_drew (S := (fun w' => At8 p3 n0 (1 + (i : Int)) n2 n3 t0 s t2 t3 w' ∧ w'.cell? ⟨b, o + i, none⟩ = some (.string s))) (by kernel_rfl) (by exact hS16) (fun hHeld => ?_)
          refine take1_ (i := 0) (v := ?_) (a' := ?_) (some 77) #[true, false, false, false, false, false, false] rfl rfl (by kernel_rfl) (fun _ _ _ h => h) (Or.inl ⟨by rfl, ?_⟩) hHeld ?_ ?_
          rotate_left
          · (intro w hSw; (try dsimp only at hSw); obtain ⟨⟨a0, a1, a2, a3, a4, a5, a6, a7⟩, b0⟩ := hSw; go_simp; (try with_reducible rfl))
          rotate_left
          · simp only [Act.put, List.setIfInBounds_toArray, List.set_cons_zero, List.set_cons_succ]
            rfl
          refine take1_ (i := 1) (v := ?_) (a' := ?_) (some 78) #[true, true, false, false, false, false, false] rfl rfl (by kernel_rfl) (fun _ _ _ h => h) (Or.inl ⟨by rfl, ?_⟩) hHeld ?_ ?_
          rotate_left
          · (intro w hSw; (try dsimp only at hSw); obtain ⟨⟨a0, a1, a2, a3, a4, a5, a6, a7⟩, b0⟩ := hSw; go_simp; (try with_reducible rfl))
          rotate_left
          · simp only [Act.put, List.setIfInBounds_toArray, List.set_cons_zero, List.set_cons_succ]
            rfl
          refine take1_ (i := 2) (v := ?_) (a' := ?_) (some 79) #[true, true, true, false, false, false, false] rfl rfl (by kernel_rfl) (fun _ _ _ h => h) (Or.inl ⟨by rfl, ?_⟩) hHeld ?_ ?_
          rotate_left
          · (intro w hSw; (try dsimp only at hSw); obtain ⟨⟨a0, a1, a2, a3, a4, a5, a6, a7⟩, b0⟩ := hSw; go_simp; (try with_reducible rfl))
          rotate_left
          · simp only [Act.put, List.setIfInBounds_toArray, List.set_cons_zero, List.set_cons_succ]
            rfl
          refine take1_ (i := 3) (v := ?_) (a' := ?_) (some 80) #[true, true, true, true, false, false, false] rfl rfl (by kernel_rfl) (fun _ _ _ h => h) (Or.inl ⟨by rfl, ?_⟩) hHeld ?_ ?_
          rotate_left
          · (intro w hSw; (try dsimp only at hSw); obtain ⟨⟨a0, a1, a2, a3, a4, a5, a6, a7⟩, b0⟩ := hSw; go_simp; (try with_reducible rfl))
          rotate_left
          · simp only [Act.put, List.setIfInBounds_toArray, List.set_cons_zero, List.set_cons_succ]
            rfl
          refine take1_ (i := 4) (v := ?_) (a' := ?_) (some 81) #[true, true, true, true, true, false, false] rfl rfl (by kernel_rfl) (fun _ _ _ h => h) (Or.inl ⟨by rfl, ?_⟩) hHeld ?_ ?_
          rotate_left
          · (intro w hSw; (try dsimp only at hSw); obtain ⟨⟨a0, a1, a2, a3, a4, a5, a6, a7⟩, b0⟩ := hSw; go_simp; (try with_reducible rfl))
          rotate_left
          · simp only [Act.put, List.setIfInBounds_toArray, List.set_cons_zero, List.set_cons_succ]
            rfl
          refine loud1_ (i := 5) (some 82) #[true, true, true, true, true, true, false] rfl rfl (by kernel_rfl) (fun K hK => ?_)
          go_simp
          (go_at_call 12; refine (HFI _).out.mono ?_; rintro e x1 ⟨rfl, k1⟩)
          refine hK.out _ _ (by exact at8s_below ‹_› ‹_›) (fun hHeld' => ?_)
          clear hK K hHeld
          have hHeld := hHeld'
          clear hHeld'
          try simp only [Act.put, List.setIfInBounds_toArray, List.set_cons_zero, List.set_cons_succ]
          refine take1_ (i := 6) (v := ?_) (a' := ?_) (some 11) #[true, true, true, true, true, true, true] rfl rfl (by kernel_rfl) (fun _ _ _ h => h) (Or.inl ⟨by rfl, ?_⟩) hHeld ?_ ?_
          rotate_left
          · (intro w hSw; (try dsimp only at hSw); obtain ⟨⟨a0, a1, a2, a3, a4, a5, a6, a7⟩, b0⟩ := hSw; go_simp; (try with_reducible rfl))
          rotate_left
          · simp only [Act.put, List.setIfInBounds_toArray, List.set_cons_zero, List.set_cons_succ]
            rfl
          refine wpAnyH_done (by kernel_rfl) ?_ _
          have hT := heap_keep (w := w9.drew) HT9.out k1
          have hS := heap_keep (w := w9.drew) HS9'.out k1
          have hB : Below w.heap.size w x1 := bnext HB9.out.drew k1
          have c10 := hc10.out x1 hB
          have HTX := Lib.hid hT
          have HBX := Lib.hid hB
          have h6 : x1.cell? ⟨p3, k * 2 + 1, none⟩ = some (.string s) := by
            have := ((entsAt_row hT) k (by omega)).2
            rw [HF6.out] at this
            exact this
          obtain ⟨a0, a1, a2, a3, a4, a5, a6, a7, b0, b1, b2, b3, b4, b5, b6, b7⟩ := cells16 hT hS
          clear hT hS hB hS16 k1 HFI HS9' HT9 HB9
          have hk4 : (k : Int) < 4 := by omega
          have hkn : ¬ ((1 : Int) < (k : Int)) := by omega
          have hkn' : (k : Int) ≤ 1 := by omega
          have hk0 : (0 : Int) ≤ (k : Int) := by omega
          have hkz : ¬ ((k : Int) < 0) := by omega
          go_upto_region 17 with fail
          go_quiet (fail)
          go_wp2
          refine ⟨⟨1 + 1, i + 1, by omega, by omega, by omega, by omega, by rfl, by go_num, n0, (1 + (i : Int)), n2, n3, t0, s, t2, t3, HFN, Lib.hid HTX.out, Lib.hid (bdrewN HBX.out _)⟩, by simp [intOf]; omega⟩
        · have hg0 : (ge == 0) = false := by simpa using hgd
          go_wp2_with (first
            | (go_at_call 10; go_must (refine (HG _).out.mono ?_; rintro e w5 ⟨rfl, rfl⟩)))
          refine ⟨⟨1, i + 1, by omega, by omega, by omega, by omega, by rfl, by go_num, n0, n1, n2, n3, t0, t1, t2, t3, HF, HT, HB⟩, by simp [intOf]; omega⟩
      · have hR' : ∀ w', Hid (Calls Try.prog 13 #[.agg #[.int .i64 n0, .string t0, .int .i64 n1, .string t1, .int .i64 n2, .string t2, .int .i64 n3, .string t3]] w' (RetN w' 2)) := fun w' => Lib.hid (hR w')
        have hC' : ∀ w', Hid (Calls Try.prog 14 #[.agg #[.int .i64 n0, .string t0, .int .i64 n1, .string t1, .int .i64 n2, .string t2, .int .i64 n3, .string t3]] w' (RetN w' 2)) := fun w' => Lib.hid (hC w')
        clear hR hC
        go_upto_region 11 with (first
          | (refine wpList_load_row rfl 31 (.tmp 3) rfl p3 rfl _ _ _ _ HT.out Try.underlying31 rfl size_ents ?_)
          | (go_at_call 13; go_must (refine (hR' _).out.mono ?_; rintro e w3 ⟨rfl, hb3⟩; replace HT := Lib.hid (heap_keep HT.out hb3); replace HB := Lib.hid (bnext HB.out hb3); clear hb3))
          | (go_at_call 14; go_must (refine (hC' _).out.mono ?_; rintro e w4 ⟨rfl, hb4⟩; replace HT := Lib.hid (heap_keep HT.out hb4); replace HB := Lib.hid (bnext HB.out hb4); clear hb4)))
        clear hR' hC'
        have c4 := hc9.out w4 HB.out
        by_cases hgd : ge = 0
        · subst hgd
          have HFN : Hid (FillAt (entsL n0 n1 (1 + (i : Int)) n3 t0 t1 s t3) (2 + 1)) := Lib.hid (fill_set HF.out ⟨by show (1 : Int) ≤ 1 + (i : Int); omega, by show 1 + (i : Int) ≤ 12; omega, HGE.out.symm⟩ (fun j hj hne => by
            have : j = 0 ∨ j = 1 ∨ j = 2 ∨ j = 3 := by omega
            rcases this with rfl | rfl | rfl | rfl <;> first | rfl | exact absurd rfl hne))
          have hst : (w4.setCell ⟨p3, 2 * 2, none⟩ (.int .i64 (1 + (i : Int)))).setCell ⟨p3, 2 * 2 + 1, none⟩ (.string s) = w4.setRow p3 #[.int .i64 n0, .string t0, .int .i64 n1, .string t1, .int .i64 (1 + (i : Int)), .string s, .int .i64 n3, .string t3] := by
            rw [setCell_row HT.out, setRow_setCell HT.out]; rfl
          simp only [Nat.reduceMul, Nat.reduceAdd] at hst
          have HST := Lib.hid hst
          have d0 : w4.cell? ⟨p3, 4, none⟩ = some (.int .i64 n2) := cell_row HT.out _
          have d1 : w4.cell? ⟨p3, 5, none⟩ = some (.string t2) := cell_row HT.out _
          have e0 : w4.frozen? ⟨p3, 4, none⟩ = false := free_row HT.out _
          have e1 : w4.frozen? ⟨p3, 5, none⟩ = false := free_row HT.out _
          have hwi : wrap64 (1 + (i : Int)) = 1 + (i : Int) := by rw [← i64_w]; exact IntWalk.i64_in _ (by omega)
          clear hst
          go_upto_region 13 with (first
            | (go_at_call 10; go_must (refine (HG _).out.mono ?_; rintro e w5 ⟨rfl, rfl⟩)))
          rw [HST.out]
          have hT := setRow_heap w4 _ _ #[.int .i64 n0, .string t0, .int .i64 n1, .string t1, .int .i64 (1 + (i : Int)), .string s, .int .i64 n3, .string t3] _ _ HT.out
          have hB : Below w.heap.size w (w4.setRow p3 #[.int .i64 n0, .string t0, .int .i64 n1, .string t1, .int .i64 (1 + (i : Int)), .string s, .int .i64 n3, .string t3]) := HB.out.trans ⟨rfl, rfl, rfl, by rw [setRow_size]; exact Nat.le_refl _, fun k hk => setRow_other _ _ _ _ (by have := HP.out; omega)⟩
          revert hT hB
          clear HT HB c4 d0 d1 e0 e1 HST HG hc9
          generalize w4.setRow p3 #[.int .i64 n0, .string t0, .int .i64 n1, .string t1, .int .i64 (1 + (i : Int)), .string s, .int .i64 n3, .string t3] = w5
          intro hT hB
          obtain ⟨f1, f2, f3, f4⟩ := fill_back n0 n1 (1 + (i : Int)) n3 t0 t1 s t3 (2 + 1) HFN.out
          obtain ⟨k, hk, f5, f6⟩ := fill_find HFN.out (by decide) s rfl
          have hW := fun w' => dwrite_any n0 n1 (1 + (i : Int)) n3 t0 t1 s t3 w'
          have hRD := fun w' => dread_any (dwS (entsL n0 n1 (1 + (i : Int)) n3 t0 t1 s t3)) w' f4
          have hFI := fun w' => find_any n0 n1 (1 + (i : Int)) n3 t0 t1 s t3 s w'
          change ∀ w', Calls _ _ _ w' (fun e w'' => e = .returned (.tuple #[secV (dwS (entsL n0 n1 (1 + (i : Int)) n3 t0 t1 s t3)), .int .i64 (dwE (entsL n0 n1 (1 + (i : Int)) n3 t0 t1 s t3))]) ∧ _) at hW
          rw [f1] at hW
          rw [f2, f3] at hRD
          rw [f5] at hFI
          obtain ⟨l, hl⟩ : ∃ l, l = dwS (entsL n0 n1 (1 + (i : Int)) n3 t0 t1 s t3) := ⟨_, rfl⟩
          rw [← hl] at hW hRD f4
          have hl2 : (bvs l).toArray.size = 128 := by rw [secV_size, f4]
          unfold secV entsV at hW hRD
          unfold entsV at hFI
          have HW := fun w' => Lib.hid (hW w')
          have HRD := fun w' => Lib.hid (hRD w')
          have HFI := fun w' => Lib.hid (hFI w')
          have HL2 := Lib.hid hl2
          have HF6 := Lib.hid f6
          have HT5 := Lib.hid hT
          have HB5 := Lib.hid hB
          have hEQ : ∀ W : World, (Op.equalIn 10000 31 (.agg #[.int .i64 n0, .string t0, .int .i64 n1, .string t1, .int .i64 (1 + (i : Int)), .string s, .int .i64 n3, .string t3]) (.agg #[.int .i64 n0, .string t0, .int .i64 n1, .string t1, .int .i64 (1 + (i : Int)), .string s, .int .i64 n3, .string t3])).run Try.prog W = .ok true W := fun W => equal_ents W n0 n1 (1 + (i : Int)) n3 t0 t1 s t3
          clear hW hRD hFI f1 f2 f3 f4 f5 f6 hl hl2 hT hB
          go_upto_region 15 with (first
            | (refine wpList_load_row rfl 31 (.tmp 3) rfl p3 rfl _ _ _ _ HT5.out Try.underlying31 rfl size_ents ?_)
            | (refine wpList_store_row rfl 37 (.tmp 7) (.tmp 70) rfl w6.heap.size zArr (bvs l).toArray 37 rfl rfl (heap_alloc_last _ _) (by rw [HL2.out]; exact size_sec) (by rw [HL2.out, zArr_size]) (sec_one _) ?_)
            | (go_at_call 15; go_must (refine (HW w5).out.mono ?_; rintro e w6 ⟨rfl, hb6⟩; have HT6 := Lib.hid (heap_keep HT5.out hb6); have HB6 := Lib.hid (bnext HB5.out hb6); clear hb6)))
          rw [World.setRow_alloc_new]
          have hA := (Below.refl w6.heap.size w6).alloc (Nat.le_refl _) (.cells (bvs l).toArray 37 (0, 0))
          have hS := heap_alloc_last w6 (.cells (bvs l).toArray 37 (0, 0))
          have hB := HB6.out.alloc HB6.out.size (.cells (bvs l).toArray 37 (0, 0))
          have hT := heap_keep HT6.out hA
          clear hA
          revert hS hB hT
          generalize w6.alloc (.cells (bvs l).toArray 37 (0, 0)) = w7
          generalize w6.heap.size = p7
          intro hS hB hT
          have HS7 := Lib.hid hS
          have HB7 := Lib.hid hB
          have HT7 := Lib.hid hT
          clear hS hB hT HT5 HB5 HT6 HB6 HW
          go_upto_region 16 with (first
            | (refine wpList_load_row rfl 37 (.tmp 7) rfl p7 rfl _ _ _ _ HS7.out Try.underlying37 rfl (by rw [HL2.out]; exact size_sec) ?_)
            | (refine wpList_store_row rfl 31 (.tmp 9) (.tmp 75) rfl w8.heap.size #[.int .i64 0, .string ⟨#[]⟩, .int .i64 0, .string ⟨#[]⟩, .int .i64 0, .string ⟨#[]⟩, .int .i64 0, .string ⟨#[]⟩] #[.int .i64 n0, .string t0, .int .i64 n1, .string t1, .int .i64 (1 + (i : Int)), .string s, .int .i64 n3, .string t3] 31 rfl rfl (heap_alloc_last _ _) size_ents rfl (by simp [Value.oneCell']) ?_)
            | (go_at_call 17; go_must (refine (HRD w7).out.mono ?_; rintro e w8 ⟨rfl, hb8⟩; have HT8 := Lib.hid (heap_keep HT7.out hb8); have HB8 := Lib.hid (bnext HB7.out hb8); clear hb8)))
          rw [World.setRow_alloc_new]
          have hA := (Below.refl w8.heap.size w8).alloc (Nat.le_refl _) (.cells #[.int .i64 n0, .string t0, .int .i64 n1, .string t1, .int .i64 (1 + (i : Int)), .string s, .int .i64 n3, .string t3] 31 (0, 0))
          have hS := heap_alloc_last w8 (.cells #[.int .i64 n0, .string t0, .int .i64 n1, .string t1, .int .i64 (1 + (i : Int)), .string s, .int .i64 n3, .string t3] 31 (0, 0))
          have hB := HB8.out.alloc HB8.out.size (.cells #[.int .i64 n0, .string t0, .int .i64 n1, .string t1, .int .i64 (1 + (i : Int)), .string s, .int .i64 n3, .string t3] 31 (0, 0))
          have hT := heap_keep HT8.out hA
          clear hA
          revert hS hB hT
          generalize w8.alloc (.cells #[.int .i64 n0, .string t0, .int .i64 n1, .string t1, .int .i64 (1 + (i : Int)), .string s, .int .i64 n3, .string t3] 31 (0, 0)) = w9
          generalize w8.heap.size = p9
          intro hS hB hT
          have HS9' := Lib.hid hS
          have HB9 := Lib.hid hB
          have HT9 := Lib.hid hT
          have hc10 : Hid (∀ W, Below w.heap.size w W → W.cell? ⟨b, o + i, none⟩ = some (.string s)) := fun W hb => by rw [hb.cell (World.block_lt_of_cell? w _ HCS.out)]; exact HCS.out
          have hS16 : At8 p3 n0 n1 (1 + (i : Int)) n3 t0 t1 s t3 w9.drew ∧ w9.drew.cell? ⟨b, o + i, none⟩ = some (.string s) := ⟨At8.row (w := w9.drew) hT, hc10.out w9 hB⟩
          clear hS hB hT HS7 HB7 HT7 HT8 HB8 HRD
          refine wp_region_held_drew (S := (fun w' => At8 p3 n0 n1 (1 + (i : Int)) n3 t0 t1 s t3 w' ∧ w'.cell? ⟨b, o + i, none⟩ = some (.string s))) (by kernel_rfl) (by exact hS16) (fun hHeld => ?_)
          refine take1_ (i := 0) (v := ?_) (a' := ?_) (some 77) #[true, false, false, false, false, false, false] rfl rfl (by kernel_rfl) (fun _ _ _ h => h) (Or.inl ⟨by rfl, ?_⟩) hHeld ?_ ?_
          rotate_left
          · (intro w hSw; (try dsimp only at hSw); obtain ⟨⟨a0, a1, a2, a3, a4, a5, a6, a7⟩, b0⟩ := hSw; go_simp; (try with_reducible rfl))
          rotate_left
          · simp only [Act.put, List.setIfInBounds_toArray, List.set_cons_zero, List.set_cons_succ]
            rfl
          refine take1_ (i := 1) (v := ?_) (a' := ?_) (some 78) #[true, true, false, false, false, false, false] rfl rfl (by kernel_rfl) (fun _ _ _ h => h) (Or.inl ⟨by rfl, ?_⟩) hHeld ?_ ?_
          rotate_left
          · (intro w hSw; (try dsimp only at hSw); obtain ⟨⟨a0, a1, a2, a3, a4, a5, a6, a7⟩, b0⟩ := hSw; go_simp; (try with_reducible rfl))
          rotate_left
          · simp only [Act.put, List.setIfInBounds_toArray, List.set_cons_zero, List.set_cons_succ]
            rfl
          refine take1_ (i := 2) (v := ?_) (a' := ?_) (some 79) #[true, true, true, false, false, false, false] rfl rfl (by kernel_rfl) (fun _ _ _ h => h) (Or.inl ⟨by rfl, ?_⟩) hHeld ?_ ?_
          rotate_left
          · (intro w hSw; (try dsimp only at hSw); obtain ⟨⟨a0, a1, a2, a3, a4, a5, a6, a7⟩, b0⟩ := hSw; go_simp; (try with_reducible rfl))
          rotate_left
          · simp only [Act.put, List.setIfInBounds_toArray, List.set_cons_zero, List.set_cons_succ]
            rfl
          refine take1_ (i := 3) (v := ?_) (a' := ?_) (some 80) #[true, true, true, true, false, false, false] rfl rfl (by kernel_rfl) (fun _ _ _ h => h) (Or.inl ⟨by rfl, ?_⟩) hHeld ?_ ?_
          rotate_left
          · (intro w hSw; (try dsimp only at hSw); obtain ⟨⟨a0, a1, a2, a3, a4, a5, a6, a7⟩, b0⟩ := hSw; go_simp; (try with_reducible rfl))
          rotate_left
          · simp only [Act.put, List.setIfInBounds_toArray, List.set_cons_zero, List.set_cons_succ]
            rfl
          refine take1_ (i := 4) (v := ?_) (a' := ?_) (some 81) #[true, true, true, true, true, false, false] rfl rfl (by kernel_rfl) (fun _ _ _ h => h) (Or.inl ⟨by rfl, ?_⟩) hHeld ?_ ?_
          rotate_left
          · (intro w hSw; (try dsimp only at hSw); obtain ⟨⟨a0, a1, a2, a3, a4, a5, a6, a7⟩, b0⟩ := hSw; go_simp; (try with_reducible rfl))
          rotate_left
          · simp only [Act.put, List.setIfInBounds_toArray, List.set_cons_zero, List.set_cons_succ]
            rfl
          refine loud1_ (i := 5) (some 82) #[true, true, true, true, true, true, false] rfl rfl (by kernel_rfl) (fun K hK => ?_)
          go_simp
          (go_at_call 12; refine (HFI _).out.mono ?_; rintro e x1 ⟨rfl, k1⟩)
          refine hK.out _ _ (by exact at8s_below ‹_› ‹_›) (fun hHeld' => ?_)
          clear hK K hHeld
          have hHeld := hHeld'
          clear hHeld'
          try simp only [Act.put, List.setIfInBounds_toArray, List.set_cons_zero, List.set_cons_succ]
          refine take1_ (i := 6) (v := ?_) (a' := ?_) (some 11) #[true, true, true, true, true, true, true] rfl rfl (by kernel_rfl) (fun _ _ _ h => h) (Or.inl ⟨by rfl, ?_⟩) hHeld ?_ ?_
          rotate_left
          · (intro w hSw; (try dsimp only at hSw); obtain ⟨⟨a0, a1, a2, a3, a4, a5, a6, a7⟩, b0⟩ := hSw; go_simp; (try with_reducible rfl))
          rotate_left
          · simp only [Act.put, List.setIfInBounds_toArray, List.set_cons_zero, List.set_cons_succ]
            rfl
          refine wpAnyH_done (by kernel_rfl) ?_ _
          have hT := heap_keep (w := w9.drew) HT9.out k1
          have hS := heap_keep (w := w9.drew) HS9'.out k1
          have hB : Below w.heap.size w x1 := bnext HB9.out.drew k1
          have c10 := hc10.out x1 hB
          have HTX := Lib.hid hT
          have HBX := Lib.hid hB
          have h6 : x1.cell? ⟨p3, k * 2 + 1, none⟩ = some (.string s) := by
            have := ((entsAt_row hT) k (by omega)).2
            rw [HF6.out] at this
            exact this
          obtain ⟨a0, a1, a2, a3, a4, a5, a6, a7, b0, b1, b2, b3, b4, b5, b6, b7⟩ := cells16 hT hS
          clear hT hS hB hS16 k1 HFI HS9' HT9 HB9
          have hk4 : (k : Int) < 4 := by omega
          have hkn : ¬ ((2 : Int) < (k : Int)) := by omega
          have hkn' : (k : Int) ≤ 2 := by omega
          have hk0 : (0 : Int) ≤ (k : Int) := by omega
          have hkz : ¬ ((k : Int) < 0) := by omega
          go_upto_region 17 with fail
          go_quiet (fail)
          go_wp2
          refine ⟨⟨2 + 1, i + 1, by omega, by omega, by omega, by omega, by rfl, by go_num, n0, n1, (1 + (i : Int)), n3, t0, t1, s, t3, HFN, Lib.hid HTX.out, Lib.hid (bdrewN HBX.out _)⟩, by simp [intOf]; omega⟩
        · have hg0 : (ge == 0) = false := by simpa using hgd
          go_wp2_with (first
            | (go_at_call 10; go_must (refine (HG _).out.mono ?_; rintro e w5 ⟨rfl, rfl⟩)))
          refine ⟨⟨2, i + 1, by omega, by omega, by omega, by omega, by rfl, by go_num, n0, n1, n2, n3, t0, t1, t2, t3, HF, HT, HB⟩, by simp [intOf]; omega⟩
      · have hR' : ∀ w', Hid (Calls Try.prog 13 #[.agg #[.int .i64 n0, .string t0, .int .i64 n1, .string t1, .int .i64 n2, .string t2, .int .i64 n3, .string t3]] w' (RetN w' 3)) := fun w' => Lib.hid (hR w')
        have hC' : ∀ w', Hid (Calls Try.prog 14 #[.agg #[.int .i64 n0, .string t0, .int .i64 n1, .string t1, .int .i64 n2, .string t2, .int .i64 n3, .string t3]] w' (RetN w' 3)) := fun w' => Lib.hid (hC w')
        clear hR hC
        go_upto_region 11 with (first
          | (refine wpList_load_row rfl 31 (.tmp 3) rfl p3 rfl _ _ _ _ HT.out Try.underlying31 rfl size_ents ?_)
          | (go_at_call 13; go_must (refine (hR' _).out.mono ?_; rintro e w3 ⟨rfl, hb3⟩; replace HT := Lib.hid (heap_keep HT.out hb3); replace HB := Lib.hid (bnext HB.out hb3); clear hb3))
          | (go_at_call 14; go_must (refine (hC' _).out.mono ?_; rintro e w4 ⟨rfl, hb4⟩; replace HT := Lib.hid (heap_keep HT.out hb4); replace HB := Lib.hid (bnext HB.out hb4); clear hb4)))
        clear hR' hC'
        have c4 := hc9.out w4 HB.out
        by_cases hgd : ge = 0
        · subst hgd
          have HFN : Hid (FillAt (entsL n0 n1 n2 (1 + (i : Int)) t0 t1 t2 s) (3 + 1)) := Lib.hid (fill_set HF.out ⟨by show (1 : Int) ≤ 1 + (i : Int); omega, by show 1 + (i : Int) ≤ 12; omega, HGE.out.symm⟩ (fun j hj hne => by
            have : j = 0 ∨ j = 1 ∨ j = 2 ∨ j = 3 := by omega
            rcases this with rfl | rfl | rfl | rfl <;> first | rfl | exact absurd rfl hne))
          have hst : (w4.setCell ⟨p3, 2 * 3, none⟩ (.int .i64 (1 + (i : Int)))).setCell ⟨p3, 2 * 3 + 1, none⟩ (.string s) = w4.setRow p3 #[.int .i64 n0, .string t0, .int .i64 n1, .string t1, .int .i64 n2, .string t2, .int .i64 (1 + (i : Int)), .string s] := by
            rw [setCell_row HT.out, setRow_setCell HT.out]; rfl
          simp only [Nat.reduceMul, Nat.reduceAdd] at hst
          have HST := Lib.hid hst
          have d0 : w4.cell? ⟨p3, 6, none⟩ = some (.int .i64 n3) := cell_row HT.out _
          have d1 : w4.cell? ⟨p3, 7, none⟩ = some (.string t3) := cell_row HT.out _
          have e0 : w4.frozen? ⟨p3, 6, none⟩ = false := free_row HT.out _
          have e1 : w4.frozen? ⟨p3, 7, none⟩ = false := free_row HT.out _
          have hwi : wrap64 (1 + (i : Int)) = 1 + (i : Int) := by rw [← i64_w]; exact IntWalk.i64_in _ (by omega)
          clear hst
          go_upto_region 13 with (first
            | (go_at_call 10; go_must (refine (HG _).out.mono ?_; rintro e w5 ⟨rfl, rfl⟩)))
          rw [HST.out]
          have hT := setRow_heap w4 _ _ #[.int .i64 n0, .string t0, .int .i64 n1, .string t1, .int .i64 n2, .string t2, .int .i64 (1 + (i : Int)), .string s] _ _ HT.out
          have hB : Below w.heap.size w (w4.setRow p3 #[.int .i64 n0, .string t0, .int .i64 n1, .string t1, .int .i64 n2, .string t2, .int .i64 (1 + (i : Int)), .string s]) := HB.out.trans ⟨rfl, rfl, rfl, by rw [setRow_size]; exact Nat.le_refl _, fun k hk => setRow_other _ _ _ _ (by have := HP.out; omega)⟩
          revert hT hB
          clear HT HB c4 d0 d1 e0 e1 HST HG hc9
          generalize w4.setRow p3 #[.int .i64 n0, .string t0, .int .i64 n1, .string t1, .int .i64 n2, .string t2, .int .i64 (1 + (i : Int)), .string s] = w5
          intro hT hB
          obtain ⟨f1, f2, f3, f4⟩ := fill_back n0 n1 n2 (1 + (i : Int)) t0 t1 t2 s (3 + 1) HFN.out
          obtain ⟨k, hk, f5, f6⟩ := fill_find HFN.out (by decide) s rfl
          have hW := fun w' => dwrite_any n0 n1 n2 (1 + (i : Int)) t0 t1 t2 s w'
          have hRD := fun w' => dread_any (dwS (entsL n0 n1 n2 (1 + (i : Int)) t0 t1 t2 s)) w' f4
          have hFI := fun w' => find_any n0 n1 n2 (1 + (i : Int)) t0 t1 t2 s s w'
          change ∀ w', Calls _ _ _ w' (fun e w'' => e = .returned (.tuple #[secV (dwS (entsL n0 n1 n2 (1 + (i : Int)) t0 t1 t2 s)), .int .i64 (dwE (entsL n0 n1 n2 (1 + (i : Int)) t0 t1 t2 s))]) ∧ _) at hW
          rw [f1] at hW
          rw [f2, f3] at hRD
          rw [f5] at hFI
          obtain ⟨l, hl⟩ : ∃ l, l = dwS (entsL n0 n1 n2 (1 + (i : Int)) t0 t1 t2 s) := ⟨_, rfl⟩
          rw [← hl] at hW hRD f4
          have hl2 : (bvs l).toArray.size = 128 := by rw [secV_size, f4]
          unfold secV entsV at hW hRD
          unfold entsV at hFI
          have HW := fun w' => Lib.hid (hW w')
          have HRD := fun w' => Lib.hid (hRD w')
          have HFI := fun w' => Lib.hid (hFI w')
          have HL2 := Lib.hid hl2
          have HF6 := Lib.hid f6
          have HT5 := Lib.hid hT
          have HB5 := Lib.hid hB
          have hEQ : ∀ W : World, (Op.equalIn 10000 31 (.agg #[.int .i64 n0, .string t0, .int .i64 n1, .string t1, .int .i64 n2, .string t2, .int .i64 (1 + (i : Int)), .string s]) (.agg #[.int .i64 n0, .string t0, .int .i64 n1, .string t1, .int .i64 n2, .string t2, .int .i64 (1 + (i : Int)), .string s])).run Try.prog W = .ok true W := fun W => equal_ents W n0 n1 n2 (1 + (i : Int)) t0 t1 t2 s
          clear hW hRD hFI f1 f2 f3 f4 f5 f6 hl hl2 hT hB
          go_upto_region 15 with (first
            | (refine wpList_load_row rfl 31 (.tmp 3) rfl p3 rfl _ _ _ _ HT5.out Try.underlying31 rfl size_ents ?_)
            | (refine wpList_store_row rfl 37 (.tmp 7) (.tmp 70) rfl w6.heap.size zArr (bvs l).toArray 37 rfl rfl (heap_alloc_last _ _) (by rw [HL2.out]; exact size_sec) (by rw [HL2.out, zArr_size]) (sec_one _) ?_)
            | (go_at_call 15; go_must (refine (HW w5).out.mono ?_; rintro e w6 ⟨rfl, hb6⟩; have HT6 := Lib.hid (heap_keep HT5.out hb6); have HB6 := Lib.hid (bnext HB5.out hb6); clear hb6)))
          rw [World.setRow_alloc_new]
          have hA := (Below.refl w6.heap.size w6).alloc (Nat.le_refl _) (.cells (bvs l).toArray 37 (0, 0))
          have hS := heap_alloc_last w6 (.cells (bvs l).toArray 37 (0, 0))
          have hB := HB6.out.alloc HB6.out.size (.cells (bvs l).toArray 37 (0, 0))
          have hT := heap_keep HT6.out hA
          clear hA
          revert hS hB hT
          generalize w6.alloc (.cells (bvs l).toArray 37 (0, 0)) = w7
          generalize w6.heap.size = p7
          intro hS hB hT
          have HS7 := Lib.hid hS
          have HB7 := Lib.hid hB
          have HT7 := Lib.hid hT
          clear hS hB hT HT5 HB5 HT6 HB6 HW
          go_upto_region 16 with (first
            | (refine wpList_load_row rfl 37 (.tmp 7) rfl p7 rfl _ _ _ _ HS7.out Try.underlying37 rfl (by rw [HL2.out]; exact size_sec) ?_)
            | (refine wpList_store_row rfl 31 (.tmp 9) (.tmp 75) rfl w8.heap.size #[.int .i64 0, .string ⟨#[]⟩, .int .i64 0, .string ⟨#[]⟩, .int .i64 0, .string ⟨#[]⟩, .int .i64 0, .string ⟨#[]⟩] #[.int .i64 n0, .string t0, .int .i64 n1, .string t1, .int .i64 n2, .string t2, .int .i64 (1 + (i : Int)), .string s] 31 rfl rfl (heap_alloc_last _ _) size_ents rfl (by simp [Value.oneCell']) ?_)
            | (go_at_call 17; go_must (refine (HRD w7).out.mono ?_; rintro e w8 ⟨rfl, hb8⟩; have HT8 := Lib.hid (heap_keep HT7.out hb8); have HB8 := Lib.hid (bnext HB7.out hb8); clear hb8)))
          rw [World.setRow_alloc_new]
          have hA := (Below.refl w8.heap.size w8).alloc (Nat.le_refl _) (.cells #[.int .i64 n0, .string t0, .int .i64 n1, .string t1, .int .i64 n2, .string t2, .int .i64 (1 + (i : Int)), .string s] 31 (0, 0))
          have hS := heap_alloc_last w8 (.cells #[.int .i64 n0, .string t0, .int .i64 n1, .string t1, .int .i64 n2, .string t2, .int .i64 (1 + (i : Int)), .string s] 31 (0, 0))
          have hB := HB8.out.alloc HB8.out.size (.cells #[.int .i64 n0, .string t0, .int .i64 n1, .string t1, .int .i64 n2, .string t2, .int .i64 (1 + (i : Int)), .string s] 31 (0, 0))
          have hT := heap_keep HT8.out hA
          clear hA
          revert hS hB hT
          generalize w8.alloc (.cells #[.int .i64 n0, .string t0, .int .i64 n1, .string t1, .int .i64 n2, .string t2, .int .i64 (1 + (i : Int)), .string s] 31 (0, 0)) = w9
          generalize w8.heap.size = p9
          intro hS hB hT
          have HS9' := Lib.hid hS
          have HB9 := Lib.hid hB
          have HT9 := Lib.hid hT
          have hc10 : Hid (∀ W, Below w.heap.size w W → W.cell? ⟨b, o + i, none⟩ = some (.string s)) := fun W hb => by rw [hb.cell (World.block_lt_of_cell? w _ HCS.out)]; exact HCS.out
          have hS16 : At8 p3 n0 n1 n2 (1 + (i : Int)) t0 t1 t2 s w9.drew ∧ w9.drew.cell? ⟨b, o + i, none⟩ = some (.string s) := ⟨At8.row (w := w9.drew) hT, hc10.out w9 hB⟩
          clear hS hB hT HS7 HB7 HT7 HT8 HB8 HRD
          refine wp_region_held_drew (S := (fun w' => At8 p3 n0 n1 n2 (1 + (i : Int)) t0 t1 t2 s w' ∧ w'.cell? ⟨b, o + i, none⟩ = some (.string s))) (by kernel_rfl) (by exact hS16) (fun hHeld => ?_)
          refine take1_ (i := 0) (v := ?_) (a' := ?_) (some 77) #[true, false, false, false, false, false, false] rfl rfl (by kernel_rfl) (fun _ _ _ h => h) (Or.inl ⟨by rfl, ?_⟩) hHeld ?_ ?_
          rotate_left
          · (intro w hSw; (try dsimp only at hSw); obtain ⟨⟨a0, a1, a2, a3, a4, a5, a6, a7⟩, b0⟩ := hSw; go_simp; (try with_reducible rfl))
          rotate_left
          · simp only [Act.put, List.setIfInBounds_toArray, List.set_cons_zero, List.set_cons_succ]
            rfl
          refine take1_ (i := 1) (v := ?_) (a' := ?_) (some 78) #[true, true, false, false, false, false, false] rfl rfl (by kernel_rfl) (fun _ _ _ h => h) (Or.inl ⟨by rfl, ?_⟩) hHeld ?_ ?_
          rotate_left
          · (intro w hSw; (try dsimp only at hSw); obtain ⟨⟨a0, a1, a2, a3, a4, a5, a6, a7⟩, b0⟩ := hSw; go_simp; (try with_reducible rfl))
          rotate_left
          · simp only [Act.put, List.setIfInBounds_toArray, List.set_cons_zero, List.set_cons_succ]
            rfl
          refine take1_ (i := 2) (v := ?_) (a' := ?_) (some 79) #[true, true, true, false, false, false, false] rfl rfl (by kernel_rfl) (fun _ _ _ h => h) (Or.inl ⟨by rfl, ?_⟩) hHeld ?_ ?_
          rotate_left
          · (intro w hSw; (try dsimp only at hSw); obtain ⟨⟨a0, a1, a2, a3, a4, a5, a6, a7⟩, b0⟩ := hSw; go_simp; (try with_reducible rfl))
          rotate_left
          · simp only [Act.put, List.setIfInBounds_toArray, List.set_cons_zero, List.set_cons_succ]
            rfl
          refine take1_ (i := 3) (v := ?_) (a' := ?_) (some 80) #[true, true, true, true, false, false, false] rfl rfl (by kernel_rfl) (fun _ _ _ h => h) (Or.inl ⟨by rfl, ?_⟩) hHeld ?_ ?_
          rotate_left
          · (intro w hSw; (try dsimp only at hSw); obtain ⟨⟨a0, a1, a2, a3, a4, a5, a6, a7⟩, b0⟩ := hSw; go_simp; (try with_reducible rfl))
          rotate_left
          · simp only [Act.put, List.setIfInBounds_toArray, List.set_cons_zero, List.set_cons_succ]
            rfl
          refine take1_ (i := 4) (v := ?_) (a' := ?_) (some 81) #[true, true, true, true, true, false, false] rfl rfl (by kernel_rfl) (fun _ _ _ h => h) (Or.inl ⟨by rfl, ?_⟩) hHeld ?_ ?_
          rotate_left
          · (intro w hSw; (try dsimp only at hSw); obtain ⟨⟨a0, a1, a2, a3, a4, a5, a6, a7⟩, b0⟩ := hSw; go_simp; (try with_reducible rfl))
          rotate_left
          · simp only [Act.put, List.setIfInBounds_toArray, List.set_cons_zero, List.set_cons_succ]
            rfl
          refine loud1_ (i := 5) (some 82) #[true, true, true, true, true, true, false] rfl rfl (by kernel_rfl) (fun K hK => ?_)
          go_simp
          (go_at_call 12; refine (HFI _).out.mono ?_; rintro e x1 ⟨rfl, k1⟩)
          refine hK.out _ _ (by exact at8s_below ‹_› ‹_›) (fun hHeld' => ?_)
          clear hK K hHeld
          have hHeld := hHeld'
          clear hHeld'
          try simp only [Act.put, List.setIfInBounds_toArray, List.set_cons_zero, List.set_cons_succ]
          refine take1_ (i := 6) (v := ?_) (a' := ?_) (some 11) #[true, true, true, true, true, true, true] rfl rfl (by kernel_rfl) (fun _ _ _ h => h) (Or.inl ⟨by rfl, ?_⟩) hHeld ?_ ?_
          rotate_left
          · (intro w hSw; (try dsimp only at hSw); obtain ⟨⟨a0, a1, a2, a3, a4, a5, a6, a7⟩, b0⟩ := hSw; go_simp; (try with_reducible rfl))
          rotate_left
          · simp only [Act.put, List.setIfInBounds_toArray, List.set_cons_zero, List.set_cons_succ]
            rfl
          refine wpAnyH_done (by kernel_rfl) ?_ _
          have hT := heap_keep (w := w9.drew) HT9.out k1
          have hS := heap_keep (w := w9.drew) HS9'.out k1
          have hB : Below w.heap.size w x1 := bnext HB9.out.drew k1
          have c10 := hc10.out x1 hB
          have HTX := Lib.hid hT
          have HBX := Lib.hid hB
          have h6 : x1.cell? ⟨p3, k * 2 + 1, none⟩ = some (.string s) := by
            have := ((entsAt_row hT) k (by omega)).2
            rw [HF6.out] at this
            exact this
          obtain ⟨a0, a1, a2, a3, a4, a5, a6, a7, b0, b1, b2, b3, b4, b5, b6, b7⟩ := cells16 hT hS
          clear hT hS hB hS16 k1 HFI HS9' HT9 HB9
          have hk4 : (k : Int) < 4 := by omega
          have hkn : ¬ ((3 : Int) < (k : Int)) := by omega
          have hkn' : (k : Int) ≤ 3 := by omega
          have hk0 : (0 : Int) ≤ (k : Int) := by omega
          have hkz : ¬ ((k : Int) < 0) := by omega
          go_upto_region 17 with fail
          go_quiet (fail)
          go_wp2
          refine ⟨⟨3 + 1, i + 1, by omega, by omega, by omega, by omega, by rfl, by go_num, n0, n1, n2, (1 + (i : Int)), t0, t1, t2, s, HFN, Lib.hid HTX.out, Lib.hid (bdrewN HBX.out _)⟩, by simp [intOf]; omega⟩
        · have hg0 : (ge == 0) = false := by simpa using hgd
          go_wp2_with (first
            | (go_at_call 10; go_must (refine (HG _).out.mono ?_; rintro e w5 ⟨rfl, rfl⟩)))
          refine ⟨⟨3, i + 1, by omega, by omega, by omega, by omega, by rfl, by go_num, n0, n1, n2, n3, t0, t1, t2, t3, HF, HT, HB⟩, by simp [intOf]; omega⟩
      · have hR' : ∀ w', Hid (Calls Try.prog 13 #[.agg #[.int .i64 n0, .string t0, .int .i64 n1, .string t1, .int .i64 n2, .string t2, .int .i64 n3, .string t3]] w' (RetN w' (-1))) := fun w' => Lib.hid (hR w')
        have hC' : ∀ w', Hid (Calls Try.prog 14 #[.agg #[.int .i64 n0, .string t0, .int .i64 n1, .string t1, .int .i64 n2, .string t2, .int .i64 n3, .string t3]] w' (RetN w' 4)) := fun w' => Lib.hid (hC w')
        clear hR hC
        go_upto_region 11 with (first
          | (refine wpList_load_row rfl 31 (.tmp 3) rfl p3 rfl _ _ _ _ HT.out Try.underlying31 rfl size_ents ?_)
          | (go_at_call 13; go_must (refine (hR' _).out.mono ?_; rintro e w3 ⟨rfl, hb3⟩; replace HT := Lib.hid (heap_keep HT.out hb3); replace HB := Lib.hid (bnext HB.out hb3); clear hb3))
          | (go_at_call 14; go_must (refine (hC' _).out.mono ?_; rintro e w4 ⟨rfl, hb4⟩; replace HT := Lib.hid (heap_keep HT.out hb4); replace HB := Lib.hid (bnext HB.out hb4); clear hb4)))
        clear hR' hC'
        have c4 := hc9.out w4 HB.out
        by_cases hgd : ge = 0
        · subst hgd
          go_wp2_with (first
            | (go_at_call 10; go_must (refine (HG _).out.mono ?_; rintro e w5 ⟨rfl, rfl⟩)))
          refine ⟨⟨4, i + 1, by omega, by omega, by omega, by omega, by rfl, by go_num, n0, n1, n2, n3, t0, t1, t2, t3, HF, HT, HB⟩, by simp [intOf]; omega⟩
        · have hg0 : (ge == 0) = false := by simpa using hgd
          go_wp2_with (first
            | (go_at_call 10; go_must (refine (HG _).out.mono ?_; rintro e w5 ⟨rfl, rfl⟩)))
          refine ⟨⟨4, i + 1, by omega, by omega, by omega, by omega, by rfl, by go_num, n0, n1, n2, n3, t0, t1, t2, t3, HF, HT, HB⟩, by simp [intOf]; omega⟩
    · by_cases h1 : i < L.length
      · have h2 : ¬ i < 12 := fun h => hlt ⟨h1, h⟩
        go_wp2
        go_ret
        exact ⟨rfl, HB.out⟩
      · go_wp2
        go_ret
        exact ⟨rfl, HB.out⟩
end Go.Proofs.Ytcgfhpgjaibmhaa
