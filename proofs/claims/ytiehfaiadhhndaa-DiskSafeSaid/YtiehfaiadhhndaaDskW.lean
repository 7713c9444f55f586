/-
  Disk: the law's Is, for a disk and its reference that are alike.
-/
import Derived.Test.YtiehfaiadhhndaaDskV
import Derived.Test.YtiehfaiadhhndaaDskL
namespace Go.Proofs.Ytiehfaiadhhndaa
open Go.RowKit
set_option linter.unusedVariables false
set_option linter.unusedSimpArgs false
set_option linter.unnecessarySimpa false
theorem infoU8_3 : (Try.prog.info? 5).map (fun i => i.size) = some 1 := by kernel_rfl
theorem equal_sc (w : World) (s t : Sc) : (Op.equalIn 10000 31 (.agg (scF s).toArray) (.agg (scF t).toArray)).run Try.prog w = .ok (decide (s.1 = t.1)) w := by
  have h : ∃ i, Try.prog.info? 5 = some i := by
    cases hi : Try.prog.info? 5 with
    | none => have := infoU8_3; rw [hi] at this; cases this
    | some i => exact ⟨i, rfl⟩
  obtain ⟨i, hi⟩ := h
  exact equal_sec Try.underlying31 hi (by kernel_rfl) (by kernel_rfl) Try.underlying5 w s.1 t.1 s.2 t.2
theorem DkAt.drewN {w : World} {base p gS : Nat} {vq : Value} {D : Dk} (h : DkAt w base p gS vq D) (n : Nat) : DkAt (w.drewN n) base p gS vq D := h.keepP ((Keep.refl _ w).drewN n)
theorem RefAt.drewN {w : World} {F : Nat → Prop} {vS vQ : Value} {D : Dk} (h : RefAt w F vS vQ D) (n : Nat) : RefAt (w.drewN n) F vS vQ D := h.keep ((Keep.refl _ w).drewN n)
theorem own_cell1 {w : World} {base e n i : Nat} {A : Option Addr} {c : Nat} {xs : List Value} {v : Value} (h : w.ownsRow base e 1 (.slice A n c) n xs) (hi : xs[i]? = some v) : ∃ g, A = some ⟨g, 0, none⟩ ∧ base ≤ g ∧ w.cell? ⟨g, i, none⟩ = some v := by
  have hl : i < xs.length := (List.getElem?_eq_some_iff.1 hi).1
  rcases h with ⟨h1, ⟨e1, e2⟩ | ⟨g, cap, cur, e1, e2, e3, e4, e5, e6, e7⟩⟩
  · rw [h1, e2] at hl; omega
  · simp only [Value.slice.injEq, true_and] at e1
    refine ⟨g, e1.1, e2, ?_⟩
    rw [cell_row e3]
    rw [← e7, List.getElem?_take_of_lt (by omega)] at hi
    simpa using hi
set_option maxRecDepth 100000 in
set_option maxHeartbeats 8000000 in
theorem lis_any {w : World} {base p gS : Nat} {vq vS vQ : Value} {F : Nat → Prop} {D : Dk} (h : DkAt w base p gS vq D) (hr : RefAt w F vS vQ D) (hQ : D.Q.length ≤ 1000) (hS : D.S.length ≤ 65536) :
    Calls Try.prog 20 #[.pointer (some ⟨p, 0, none⟩), rdV D vS vQ] w (RetT w true) := by
  have HD := Lib.hid h
  have HR := Lib.hid hr
  obtain ⟨A, c, rfl, _⟩ := hr.secs
  obtain ⟨A2, c2, rfl, _⟩ := hr.que
  clear h hr
  unfold rdV
  obtain ⟨w1, hw1⟩ : ∃ w1, w.alloc (.cells #[.slice A D.S.length c, .slice A2 D.Q.length c2, .bool D.dead, .int .i64 D.arm, .int .i64 D.deeds] 43) = w1 := ⟨_, rfl⟩
  have hb1 : Below w.heap.size w w1 := by rw [← hw1]; exact (Below.refl w.heap.size w).alloc (Nat.le_refl _) _
  have hx1 : w1.heap[w.heap.size]? = some (.cells #[.slice A D.S.length c, .slice A2 D.Q.length c2, .bool D.dead, .int .i64 D.arm, .int .i64 D.deeds] 43 (0, 0)) := by rw [← hw1]; exact new_heap w _
  have HD1 := Lib.hid (HD.out.below hb1)
  have HX1 := Lib.hid hx1
  have HB1 := Lib.hid hb1
  have hsz1 : w.heap.size < w1.heap.size := (Array.getElem?_eq_some_iff.1 hx1).1
  have k0 : w1.cell? ⟨w.heap.size, 0, none⟩ = some (.slice A D.S.length c) := cell_row hx1 0; have k1 : w1.cell? ⟨w.heap.size, 1, none⟩ = some (.slice A2 D.Q.length c2) := cell_row hx1 1; have k2 : w1.cell? ⟨w.heap.size, 2, none⟩ = some (.bool D.dead) := cell_row hx1 2; have k3 : w1.cell? ⟨w.heap.size, 3, none⟩ = some (.int .i64 D.arm) := cell_row hx1 3; have k4 : w1.cell? ⟨w.heap.size, 4, none⟩ = some (.int .i64 D.deeds) := cell_row hx1 4
  have HW1 := Lib.hid hw1
  have t1 : ((D.S.length : Int) != (D.S.length : Int)) = false := by simp
  have t2 : (D.dead != D.dead) = false := by simp
  have t3 : (D.deeds != D.deeds) = false := by simp
  clear hw1 hb1 hx1
  go_enter Try.func20, Try.ntmps20
  go_upto_region 1 with fail
  rw [HW1.out]
  clear HW1
  go_quiet ((first
    | (go_at_call 10; exact Calls.quiet_of_same ((dsize_any (HD1.out.drewN _)).mono fun _ _ h => ⟨h.1, h.2.symm⟩))
    | (go_at_call 11; exact Calls.quiet_of_same ((ddead_any (HD1.out.drewN _)).mono fun _ _ h => ⟨h.1, h.2.symm⟩))
    | (go_at_call 13; exact Calls.quiet_of_same ((ddeeds_any (HD1.out.drewN _)).mono fun _ _ h => ⟨h.1, h.2.symm⟩))))
  rename_i nq
  have hd2 := HD1.out.drewN nq
  have hx2 : (w1.drewN nq).heap[w.heap.size]? = some (.cells #[.slice A D.S.length c, .slice A2 D.Q.length c2, .bool D.dead, .int .i64 D.arm, .int .i64 D.deeds] 43 (0, 0)) := HX1.out
  have hb2 := bdrewN HB1.out nq
  have hsz2 : w.heap.size < (w1.drewN nq).heap.size := hsz1
  clear k0 k1 k2 k3 k4 t2 t3 HX1 HB1 HD1 hsz1
  revert hd2 hx2 hb2 hsz2
  generalize w1.drewN nq = w2
  intro hd2 hx2 hb2 hsz2
  have HX2 := Lib.hid hx2
  have HB2 := Lib.hid hb2
  have HD2 := Lib.hid hd2
  have HQ := Lib.hid (dqueue_any hd2 hQ)
  unfold QueTo at HQ
  have t4 : ((D.Q.length : Int) != (D.Q.length : Int)) = false := by simp
  clear hd2 hx2 hb2
  go_upto_region 6 with (first
    | (go_at_call 12; go_must (refine HQ.out.mono ?_; rintro e w3 ⟨v3, rfl, ho3, hb3⟩; obtain ⟨s3, c3, rfl⟩ := own_slice1 ho3; have HD3 := Lib.hid (HD2.out.below hb3); have HB3 := Lib.hid (bnext HB2.out hb3); have hx3 := old_heap HX2.out hb3; have k0 : w3.cell? ⟨w.heap.size, 0, none⟩ = some (.slice A D.S.length c) := cell_row hx3 0; have k1 : w3.cell? ⟨w.heap.size, 1, none⟩ = some (.slice A2 D.Q.length c2) := cell_row hx3 1; have k2 : w3.cell? ⟨w.heap.size, 2, none⟩ = some (.bool D.dead) := cell_row hx3 2; have k3 : w3.cell? ⟨w.heap.size, 3, none⟩ = some (.int .i64 D.arm) := cell_row hx3 3; have k4 : w3.cell? ⟨w.heap.size, 4, none⟩ = some (.int .i64 D.deeds) := cell_row hx3 4; have HX3 := Lib.hid hx3; have HO3 := Lib.hid ho3; have hsz3 := hb3.size; clear ho3 hb3 hx3)))
  go_wp2
  go_loopw [42] (fun i wr => ∃ j : Nat, j ≤ D.Q.length ∧ i = .int .i64 (j : Int) ∧ Hid (Below w3.heap.size w3 wr)) (fun i _ => (D.Q.length - intOf i).toNat)
  case atStart => exact ⟨0, by omega, by rfl, Lib.hid (Below.refl _ _)⟩
  case round =>
    obtain ⟨j, hj, rfl, HBr⟩ := hrel
    have hxr := old_heap HX3.out HBr.out
    have j0 : wr.cell? ⟨w.heap.size, 0, none⟩ = some (.slice A D.S.length c) := cell_row hxr 0; have j1 : wr.cell? ⟨w.heap.size, 1, none⟩ = some (.slice A2 D.Q.length c2) := cell_row hxr 1; have j2 : wr.cell? ⟨w.heap.size, 2, none⟩ = some (.bool D.dead) := cell_row hxr 2; have j3 : wr.cell? ⟨w.heap.size, 3, none⟩ = some (.int .i64 D.arm) := cell_row hxr 3; have j4 : wr.cell? ⟨w.heap.size, 4, none⟩ = some (.int .i64 D.deeds) := cell_row hxr 4
    by_cases hlt : j < D.Q.length
    · obtain ⟨q, hq⟩ : ∃ q, D.Q[j]? = some q := ⟨_, List.getElem?_eq_getElem hlt⟩
      obtain ⟨A', c', e1, _, _, _, hrd, hbl⟩ := HR.out.que
      simp only [Value.slice.injEq, true_and] at e1
      obtain ⟨rfl, rfl⟩ := e1
      obtain ⟨b, o, rfl, hrow⟩ := rows_at wrF_len hrd hq
      have hb : b < w.heap.size := (hbl _ rfl).1
      have hbw : Below w.heap.size w wr := bnext HB3.out HBr.out
      have q0 : wr.cell? ⟨b, o + j * 129, none⟩ = some (.int .i64 q.at_) := (hbw.cell (p := ⟨b, _, none⟩) hb).trans (hrow 0 _ rfl)
      obtain ⟨g, rfl, hg1, hg2⟩ := own_cell1 HO3.out (i := j) (v := .int .i64 q.at_) (by unfold atsV; rw [List.getElem?_map, hq]; rfl)
      have g0 : wr.cell? ⟨g, j, none⟩ = some (.int .i64 q.at_) := (HBr.out.cell (p := ⟨g, j, none⟩) (World.block_lt_of_cell? w3 _ hg2)).trans hg2
      have t5 : (q.at_ != q.at_) = false := by simp
      have hj0 : (0 : Int) ≤ (j : Int) := by omega
      have hj1 : (j : Int) < (D.Q.length : Int) := by omega
      clear hrd hbl hrow hq hg2 hxr hbw
      go_upto_region 9 with fail
      go_quiet (fail)
      rename_i nq
      go_wp2
      refine ⟨⟨j + 1, by omega, by go_num, Lib.hid (bdrewN HBr.out nq)⟩, by simp [intOf]; omega⟩
    · obtain rfl : j = D.Q.length := by omega
      clear hxr j0 j1 j2 j3 j4
      go_wp2
      obtain ⟨wo, hwo⟩ : ∃ wo : World, wo = wr := ⟨_, rfl⟩
      have hdr := HD3.out.below HBr.out
      have hxr := old_heap HX3.out HBr.out
      have hbr := bnext HB3.out HBr.out
      rw [← hwo] at hdr hxr hbr ⊢
      clear hwo HBr
      have HDO := Lib.hid hdr
      have HXO := Lib.hid hxr
      have HBO := Lib.hid hbr
      have hzs := zero_sec
      have hza := zero_arr
      clear hdr hxr hbr
      go_loopw [7] (fun i wr => ∃ m : Int, -1 ≤ m ∧ m ≤ (D.S.length : Int) + 1 ∧ i = .int .i64 m ∧ Hid (Below wo.heap.size wo wr)) (fun i _ => ((D.S.length : Int) + 1 - intOf i).toNat)
      case atStart => exact ⟨-1, by omega, by omega, by rfl, Lib.hid (Below.refl _ _)⟩
      case round =>
        obtain ⟨m, hm1, hm2, rfl, HBr⟩ := hrel
        have hdr := HDO.out.below HBr.out
        have hxr := old_heap HXO.out HBr.out
        have hbr := bnext HBO.out HBr.out
        by_cases hlt : m ≤ (D.S.length : Int)
        · have j0 : wr.cell? ⟨w.heap.size, 0, none⟩ = some (.slice A D.S.length c) := cell_row hxr 0; have j1 : wr.cell? ⟨w.heap.size, 1, none⟩ = some (.slice A2 D.Q.length c2) := cell_row hxr 1; have j2 : wr.cell? ⟨w.heap.size, 2, none⟩ = some (.bool D.dead) := cell_row hxr 2; have j3 : wr.cell? ⟨w.heap.size, 3, none⟩ = some (.int .i64 D.arm) := cell_row hxr 3; have j4 : wr.cell? ⟨w.heap.size, 4, none⟩ = some (.int .i64 D.deeds) := cell_row hxr 4
          have HRD := Lib.hid (dread_any m hdr hQ)
          unfold RdEnd at HRD
          rw [← scF_sec] at HRD
          obtain ⟨cs, hcs, hcl, hone⟩ : ∃ cs : List Value, scF (readS D m) = cs ∧ cs.length = 128 ∧ ∀ v ∈ cs, v.oneCell' = true := ⟨_, rfl, scF_len _, scF_one _⟩
          have heq : ∀ W : World, (Op.equalIn 10000 31 (.agg cs.toArray) (.agg cs.toArray)).run Try.prog W = .ok true W := fun W => by rw [← hcs]; have := equal_sc W (readS D m) (readS D m); simpa using this
          have hRR := fun W (hb : Below w.heap.size w W) => Lib.hid (rread3_any (w := W) m (HR.out.below hb) hQ)
          unfold RdEnd rdV at hRR
          simp only [← scF_sec] at hRR
          rw [hcs] at HRD hRR
          obtain ⟨E, hE⟩ : ∃ E, mayE D m = E := ⟨_, rfl⟩
          rw [hE] at HRD hRR
          have HXr := Lib.hid hxr
          have HBx := Lib.hid hbr
          clear hdr hxr hbr hcs hE
          go_upto_region 16 with (first
            | (go_at_call 14; go_must (refine HRD.out.mono ?_; rintro e w4 ⟨rfl, hb4⟩; have HB4 := Lib.hid (HBr.out.trans (hb4.mono HBr.out.size)); clear hb4))
            | (refine wpList_store_row rfl 31 (.tmp 8) (.tmp 68) rfl w4.heap.size zArr cs.toArray 31 rfl rfl (heap_alloc_last _ _) (by simp only [List.size_toArray]; rw [hcl]; exact size_sec) (by simp [hcl, zArr_size]) (all_oneCell_toArray hone) ?_))
          rw [World.setRow_alloc_new]
          have hx8 := new_heap w4 (.cells cs.toArray 31 (0, 0))
          have hb8 : Below w4.heap.size w4 (w4.alloc (.cells cs.toArray 31)) := (Below.refl _ w4).alloc (Nat.le_refl _) _
          have hbo8 := HB4.out.trans (hb8.mono HB4.out.size)
          have hsz8 : w4.heap.size < (w4.alloc (.cells cs.toArray 31)).heap.size := by simp
          clear hb8 j0 j1 j2 j3 j4 HRD
          revert hx8 hbo8 hsz8
          generalize w4.alloc (.cells cs.toArray 31) = w8
          generalize w4.heap.size = p8
          intro hx8 hbo8 hsz8
          have HX8 := Lib.hid hx8
          have HB8 := Lib.hid hbo8
          have HRR := hRR w8 (bnext HBO.out HB8.out)
          have hxr := old_heap HXO.out HB8.out
          have j0 : w8.cell? ⟨w.heap.size, 0, none⟩ = some (.slice A D.S.length c) := cell_row hxr 0; have j1 : w8.cell? ⟨w.heap.size, 1, none⟩ = some (.slice A2 D.Q.length c2) := cell_row hxr 1; have j2 : w8.cell? ⟨w.heap.size, 2, none⟩ = some (.bool D.dead) := cell_row hxr 2; have j3 : w8.cell? ⟨w.heap.size, 3, none⟩ = some (.int .i64 D.arm) := cell_row hxr 3; have j4 : w8.cell? ⟨w.heap.size, 4, none⟩ = some (.int .i64 D.deeds) := cell_row hxr 4
          clear hx8 hbo8 hxr hRR HB4
          go_upto_region 17 with (first
            | (go_at_call 31; go_must (refine HRR.out.mono ?_; rintro e w9 ⟨rfl, hb9⟩; have HB9 := Lib.hid (HB8.out.trans (hb9.mono HB8.out.size)); have HX9 := Lib.hid (old_heap HX8.out hb9); have hsz9 := hb9.size; clear hb9))
            | (refine wpList_store_row rfl 30 (.tmp 10) (.tmp 74) rfl w9.heap.size zArr cs.toArray 30 rfl rfl (heap_alloc_last _ _) (by simp only [List.size_toArray]; rw [hcl]; exact size_arr) (by simp [hcl, zArr_size]) (all_oneCell_toArray hone) ?_))
          rw [World.setRow_alloc_new]
          have hxA := new_heap w9 (.cells cs.toArray 30 (0, 0))
          have hbA : Below w9.heap.size w9 (w9.alloc (.cells cs.toArray 30)) := (Below.refl _ w9).alloc (Nat.le_refl _) _
          have hx8A := old_heap HX9.out hbA
          have hboA := HB9.out.trans (hbA.mono HB9.out.size)
          clear hbA j0 j1 j2 j3 j4 HRR HX8 HB8 HX9 HB9
          revert hxA hx8A hboA
          generalize w9.alloc (.cells cs.toArray 30) = wA
          generalize w9.heap.size = pA
          intro hxA hx8A hboA
          have HXA := Lib.hid hxA
          have HX8 := Lib.hid hx8A
          have HBA := Lib.hid hboA
          have t6 : (E != E) = false := by simp
          have hwm : wrap64 (m + 1) = m + 1 := by rw [← i64_w]; exact IntWalk.i64_in _ (by omega)
          clear hxA hx8A hboA hsz8 hzs hza
          go_wp2_with (first
            | (refine wpList_load_row rfl 31 (.tmp 8) rfl p8 rfl _ _ _ _ HX8.out Try.underlying31 rfl (by simp only [List.size_toArray]; rw [hcl]; exact size_sec) ?_)
            | (refine wpList_load_row rfl 30 (.tmp 10) rfl pA rfl _ _ _ _ HXA.out Try.underlying30 rfl (by simp only [List.size_toArray]; rw [hcl]; exact size_arr) ?_))
          exact ⟨⟨m + 1, by omega, by omega, rfl, HBA⟩, by simp [intOf]; omega⟩
        · obtain rfl : m = (D.S.length : Int) + 1 := by omega
          have j0 : wr.cell? ⟨w.heap.size, 0, none⟩ = some (.slice A D.S.length c) := cell_row hxr 0; have j1 : wr.cell? ⟨w.heap.size, 1, none⟩ = some (.slice A2 D.Q.length c2) := cell_row hxr 1; have j2 : wr.cell? ⟨w.heap.size, 2, none⟩ = some (.bool D.dead) := cell_row hxr 2; have j3 : wr.cell? ⟨w.heap.size, 3, none⟩ = some (.int .i64 D.arm) := cell_row hxr 3; have j4 : wr.cell? ⟨w.heap.size, 4, none⟩ = some (.int .i64 D.deeds) := cell_row hxr 4
          have HBE := Lib.hid hbr
          clear hdr hxr hbr
          go_wp2
          go_ret
          exact ⟨rfl, HBE.out⟩
end Go.Proofs.Ytiehfaiadhhndaa
