/-
  Disk: the reference's Put.
-/
import Derived.Test.YtiehfaiadhhndaaDskS
namespace Go.Proofs.Ytiehfaiadhhndaa
open Go.RowKit
set_option linter.unusedVariables false
set_option linter.unusedSimpArgs false
set_option linter.unnecessarySimpa false
theorem step_buildSlice0 {P : Program} {ops : Array Oper} {o : Oper} {a : Act} {w : World} {K : Act → World → Prop} {Q : Exit → Act → World → Prop} {E : Prop} (hgd : o.guard = none) (t : TypeId) (ho : o.op = .buildSlice t 0 #[])
    (e : TypeId) (z : Value) (n bytes : Nat) (ht : P.underlying t = some (.slice e)) (hinfo : (P.info? e).map (fun i => (i.zero, i.size, i.bytes)) = some (some z, n, bytes)) (h0 : 0 < n) (h24 : n ≤ 16777216)
    (h : ∀ v w', w'.ownsRow w.heap.size e n v 0 [] → Below w.heap.size w w' → K (a.put o.dst v) w') : if Region.wanted o (yielded ops a.tmps) = true then Oper.wp P o a w K Q else E := by
  have hw : Region.wanted o (yielded ops a.tmps) = true := by simp [Region.wanted, hgd]
  rw [if_pos hw]
  obtain ⟨i, hi, hz, hsi, hbi⟩ := info_parts hinfo
  have hr := run_buildSlice_zero w t e i z n ht hi hz hsi h0 h24
  unfold Oper.wp execOp
  simp only [ho, Sem.run_bind, List.map_toArray, List.map_nil, hr, Result.andThen_ok]
  exact h _ _ ⟨by simp, .inr ⟨w.heap.size, 0, #[], rfl, Nat.le_refl _, new_heap w (.cells #[] e (0, 0)), Nat.le_refl _, by simp [maxLen], by simp, by simp⟩⟩ ((Below.refl _ w).alloc (Nat.le_refl _) _)
theorem deedD_S (D : Dk) : (deedD D).1.S = D.S := by unfold deedD; split <;> rfl
theorem deedD_Q (D : Dk) : (deedD D).1.Q = D.Q := by unfold deedD; split <;> rfl
theorem RefAt.deed {w : World} {F : Nat → Prop} {vS vQ : Value} {D : Dk} (h : RefAt w F vS vQ D) : RefAt w F vS vQ (deedD D).1 := ⟨by rw [deedD_S]; exact h.secs, by rw [deedD_Q]; exact h.que⟩
def RPutTo (w : World) (F : Nat → Prop) (D : Dk) (n : Int) (e : Ending) (w' : World) : Prop := ∃ vS vQ, e = .returned (.tuple #[rdV D vS vQ, .int .i64 n]) ∧ RefAt w' F vS vQ D ∧ Below w.heap.size w w'
theorem rwbuilt (q : Wr) : Try.prog.built 63 [(0, .int .i64 q.at_), (1, .agg (scF q.s).toArray)] = some (wrF q).toArray := by
  have h1 : (Try.prog.info? 63).map (·.zero) = some (some (.agg (wrF wr0).toArray)) := by kernel_rfl
  have h2 : ∃ fs, Try.prog.underlying 63 = some (.struct fs) ∧ fs.toList.mapM (fun f => (Try.prog.info? f.type).map fun i => (f.offset, i.size)) = some [(0, 1), (1, 128)] := ⟨_, Try.underlying63, by kernel_rfl⟩
  obtain ⟨fs, hu, hp⟩ := h2
  unfold Program.built
  cases hit : Try.prog.info? 63 with
  | none => rw [hit] at h1; cases h1
  | some it =>
    rw [hit] at h1
    have hz : it.zero = some (.agg (wrF wr0).toArray) := by simpa using h1
    have hs : (scF q.s).toArray.size = 128 := by simp [scF_len]
    simp only [hu, hz, hp, Instr.fill, Value.cells]
    simp only [List.getElem?_toArray, List.getElem?_cons_zero, List.getElem?_cons_succ, hs]
    have hw0 : (wrF wr0).length = 129 := wrF_len _
    rw [if_neg (by simp; intro h; rw [h] at hw0; simp at hw0), if_neg (by simp [hw0])]
    have := fold_set 1 (scF q.s) 0 (.int .i64 q.at_ :: scF wr0.s) (by simp [scF_len])
    have e0 : Array.foldl (fun (cs : Array Value) (p : Value × Nat) => cs.setIfInBounds (0 + p.2) p.1) (wrF wr0).toArray (#[Value.int .i64 q.at_].zipIdx) = (.int .i64 q.at_ :: scF wr0.s).toArray := by
      simp [wrF]
    rw [Array.zipIdx_toArray] at *
    simp only [List.foldl_toArray] at *
    rw [e0]
    try rw [Array.zipIdx_toArray]
    try simp only [List.foldl_toArray]
    rw [this]
    unfold wrF
    congr 2
    rw [List.drop_eq_nil_of_le (by simp [scF_len])]
    simp
def PutS (w1 : World) (p q : Nat) (v : Value) (cs : List Value) (w' : World) : Prop := w'.cell? ⟨p, 1, none⟩ = some v ∧ w'.frozen? ⟨p, 1, none⟩ = false ∧ w'.rangeAt q 0 cs ∧ Below w1.heap.size w1 w'
theorem PutS.mk' {w1 w2 w' : World} {p q : Nat} {v : Value} {cs : List Value} (h : PutS w1 p q v cs w2) (hb : Below w1.heap.size w2 w') (hp : p < w1.heap.size) (hq : q < w1.heap.size) : PutS w1 p q v cs w' := by
  refine ⟨(hb.cell (p := ⟨p, 1, none⟩) hp).trans h.1, ?_, fun j u hu => (hb.cell (p := ⟨q, 0 + j, none⟩) hq).trans (h.2.2.1 j u hu), h.2.2.2.trans hb⟩
  rw [hb.frozen (p := ⟨p, 1, none⟩) hp]; exact h.2.1
set_option maxRecDepth 100000 in
set_option maxHeartbeats 8000000 in
theorem rput3_any {w : World} {F : Nat → Prop} {vS vQ : Value} {D : Dk} (at_ : Int) (s : Sc) (h : RefAt w F vS vQ D) (hF : ∀ k, F k → k < w.heap.size) (hQ : D.Q.length ≤ 1000) (h1 : -1 ≤ D.arm ∧ D.arm ≤ 9223372036854775807) (h2 : 0 ≤ D.deeds ∧ D.deeds ≤ 1000000) :
    Calls Try.prog 30 #[rdV D vS vQ, .int .i64 at_, secV s.1] w (RPutTo w F (writeD D at_ s).1 (writeD D at_ s).2) := by
  obtain ⟨cs, hcs, hcl, hone⟩ : ∃ cs : List Value, scF s = cs ∧ cs.length = 128 ∧ ∀ v ∈ cs, v.oneCell' = true := ⟨_, rfl, scF_len _, scF_one _⟩
  have hsv : secV s.1 = .agg cs.toArray := by rw [← hcs]; rfl
  rw [hsv]
  have HR := Lib.hid h
  obtain ⟨A, c, rfl, _⟩ := h.secs
  obtain ⟨A2, c2, rfl, _⟩ := h.que
  clear h
  obtain ⟨w1, hw1⟩ : ∃ w1, ((w.alloc (.cells #[.slice A D.S.length c, .slice A2 D.Q.length c2, .bool D.dead, .int .i64 D.arm, .int .i64 D.deeds] 43)).alloc (.cells cs.toArray 30)).alloc (.cells #[.slice none 0 0, .slice none 0 0, .bool false, .int .i64 0, .int .i64 0] 43) = w1 := ⟨_, rfl⟩
  have HB1 : Hid (Below w.heap.size w w1) := Lib.hid (by rw [← hw1]; exact (((Below.refl w.heap.size w).alloc (Nat.le_refl _) _).alloc (by simp) _).alloc (by simp; omega) _)
  have hx3 : w1.heap[w.heap.size]? = some (.cells #[.slice A D.S.length c, .slice A2 D.Q.length c2, .bool D.dead, .int .i64 D.arm, .int .i64 D.deeds] 43 (0, 0)) := by
    rw [← hw1]
    exact old_heap (old_heap (new_heap w _) ((Below.refl _ _).alloc (Nat.le_refl _) _)) ((Below.refl _ _).alloc (Nat.le_refl _) _)
  have hx5 : w1.heap[w.heap.size + 1]? = some (.cells cs.toArray 30 (0, 0)) := by
    rw [← hw1]
    have := new_heap (w.alloc (.cells #[.slice A D.S.length c, .slice A2 D.Q.length c2, .bool D.dead, .int .i64 D.arm, .int .i64 D.deeds] 43)) (.cells cs.toArray 30 (0, 0))
    rw [World.size_alloc] at this
    exact old_heap this ((Below.refl _ _).alloc (Nat.le_refl _) _)
  have hx6 : w1.heap[w.heap.size + 1 + 1]? = some (.cells #[.slice none 0 0, .slice none 0 0, .bool false, .int .i64 0, .int .i64 0] 43 (0, 0)) := by
    rw [← hw1]
    have := new_heap ((w.alloc (.cells #[.slice A D.S.length c, .slice A2 D.Q.length c2, .bool D.dead, .int .i64 D.arm, .int .i64 D.deeds] 43)).alloc (.cells cs.toArray 30)) (.cells #[.slice none 0 0, .slice none 0 0, .bool false, .int .i64 0, .int .i64 0] 43 (0, 0))
    rw [World.size_alloc, World.size_alloc] at this
    exact this
  have hsz1 : w1.heap.size = w.heap.size + 3 := by rw [← hw1]; simp
  have HX3 := Lib.hid hx3
  have HX5 := Lib.hid hx5
  have HX6 := Lib.hid hx6
  have HM := Lib.hid (rmay3_any (w := w1) at_ (HR.out.below HB1.out))
  unfold rdV at HM
  unfold rdV
  have k0 : w1.cell? ⟨w.heap.size, 0, none⟩ = some (.slice A D.S.length c) := cell_row hx3 0
  have k1 : w1.cell? ⟨w.heap.size, 1, none⟩ = some (.slice A2 D.Q.length c2) := cell_row hx3 1
  have k2 : w1.cell? ⟨w.heap.size, 2, none⟩ = some (.bool D.dead) := cell_row hx3 2
  have k3 : w1.cell? ⟨w.heap.size, 3, none⟩ = some (.int .i64 D.arm) := cell_row hx3 3
  have k4 : w1.cell? ⟨w.heap.size, 4, none⟩ = some (.int .i64 D.deeds) := cell_row hx3 4
  have HW1 := Lib.hid hw1
  clear hx3 hx5 hx6 hw1
  by_cases hE : mayE D at_ = 0
  · have hne : (mayE D at_ != 0) = false := by rw [hE]; rfl
    have hW : writeD D at_ s = deedD { D with Q := D.Q ++ [⟨at_, s⟩] } := by unfold writeD; rw [if_pos hE]
    rw [hW]
    rw [hE] at HM
    go_enter Try.func30, Try.ntmps30
    go_upto_region 1 with fail
    rw [HW1.out]
    go_upto_region 4 with (first
      | (go_at_call 40; go_must (refine HM.out.mono ?_; rintro e w2 ⟨rfl, hb2⟩; have HX32 := Lib.hid (old_heap HX3.out hb2); have HX52 := Lib.hid (old_heap HX5.out hb2); have HX62 := Lib.hid (old_heap HX6.out hb2); have HB2 := Lib.hid (bnext HB1.out hb2); have hsz2 := hb2.size; clear hb2)))
    clear k0 k1 k2 k3 k4 HW1 HM HX3 HX5 HX6 HB1
    have hbw := rwbuilt ⟨at_, s⟩
    rw [hcs] at hbw
    dsimp only at hbw
    obtain ⟨ws, hws, hwl, hwo⟩ : ∃ ws : List Value, wrF ⟨at_, s⟩ = ws ∧ ws.length = 129 ∧ ∀ v ∈ ws, v.oneCell' = true := ⟨_, rfl, wrF_len _, wrF_one _⟩
    rw [hws] at hbw
    have HS0 : Hid (PutS w2 w.heap.size (w.heap.size + 1) (.slice A2 D.Q.length c2) cs w2.drew) := Lib.hid ⟨cell_row HX32.out 1, free_row HX32.out 1, box_range HX52.out, (Below.refl _ w2).drew⟩
    have hlt3 : w.heap.size < w2.heap.size := by omega
    have hlt5 : w.heap.size + 1 < w2.heap.size := by omega
    have hu := Try.underlying30
    have hi : (Try.prog.info? 30).map (·.size) = some cs.length := by rw [hcl]; exact size_arr
    have HRD := Lib.hid (rows_rd wrF_len (by decide) (HR.out.que.below wrF_len HB2.out))
    have HHB := Lib.hid hbw
    clear hbw
    refine wp_region_F (S := (PutS w2 w.heap.size (w.heap.size + 1) (.slice A2 D.Q.length c2) cs)) 10 (by kernel_rfl) (by exact HS0.out) (fun hHeld => ?_)
    refine take1F (i := 1) (v := ?_) (a' := ?_) (some 17) #[false, true, false, false, false, false, false, false, false, false, false] rfl rfl (by kernel_rfl) (fun _ _ _ h => h) (Or.inl ⟨by rfl, ?_⟩) hHeld ?_ ?_
    rotate_left
    · (intro w hSw; (try dsimp only at hSw); obtain ⟨s1, s2, s3, s4⟩ := hSw; go_simp; (try with_reducible rfl))
    rotate_left
    · simp only [Act.put, List.setIfInBounds_toArray, List.set_cons_zero, List.set_cons_succ]
      rfl
    refine take1F (i := 2) (v := ?_) (a' := ?_) (some 18) #[false, true, true, false, false, false, false, false, false, false, false] rfl rfl (by kernel_rfl) (fun _ _ _ h => h) (Or.inl ⟨by rfl, ?_⟩) hHeld ?_ ?_
    rotate_left
    · (intro w hSw; (try dsimp only at hSw); obtain ⟨s1, s2, s3, s4⟩ := hSw; go_simp; (try with_reducible rfl))
    rotate_left
    · simp only [Act.put, List.setIfInBounds_toArray, List.set_cons_zero, List.set_cons_succ]
      rfl
    refine take1F (i := 4) (v := ?_) (a' := ?_) (some 20) #[false, true, true, false, true, false, false, false, false, false, false] rfl rfl (by kernel_rfl) (fun _ _ _ h => h) (Or.inl ⟨by rfl, ?_⟩) hHeld ?_ ?_
    rotate_left
    · (intro w hSw; (try dsimp only at hSw); obtain ⟨s1, s2, s3, s4⟩ := hSw; go_simp; (try with_reducible rfl))
    rotate_left
    · simp only [Act.put, List.setIfInBounds_toArray, List.set_cons_zero, List.set_cons_succ]
      rfl
    refine take1F (i := 5) (v := .agg cs.toArray) (a' := ?_) (some 21) #[false, true, true, false, true, true, false, false, false, false, false] rfl rfl (by kernel_rfl) (fun _ _ _ h => h) (yieldsIf_load_mid (by rfl) 30 (.tmp 5) rfl (w.heap.size + 1) 0 rfl cs _ (fun w h => h.2.2.1) hu rfl hi) hHeld ?_ ?_
    rotate_left
    · simp only [Act.put, List.setIfInBounds_toArray, List.set_cons_zero, List.set_cons_succ]
      rfl
    refine take1F (i := 6) (v := .agg ws.toArray) (a' := ?_) (some 22) #[false, true, true, false, true, true, true, false, false, false, false] rfl rfl (by kernel_rfl) (fun _ _ _ h => h) (yieldsIf_build (by rfl) 63 _ rfl [(0, .int .i64 at_), (1, .agg cs.toArray)] (by simp [Act.eval]) ws.toArray HHB.out) hHeld ?_ ?_
    rotate_left
    · simp only [Act.put, List.setIfInBounds_toArray, List.set_cons_zero, List.set_cons_succ]
      rfl
    refine fork2F (i := 0) (j := 7) (some 16) (some 23) #[true, true, true, false, true, true, true, false, false, false, false] #[false, true, true, false, true, true, true, true, false, false, false] rfl rfl rfl rfl (by kernel_rfl) (fun K hK => ?_) (fun K hK => ?_)
    · refine step_buildSlice0 (by rfl) 41 (by rfl) 63 (.agg (wrF wr0).toArray) 129 136 Try.underlying41 info_rwr3 (by decide) (by decide) ?_
      intro v16 w16 ho16 hb16
      have HO16 := Lib.hid (own_low ho16 hHeld.2.2.2.size)
      have hnx := hHeld.mk' (hb16.mono hHeld.2.2.2.size) hlt3 hlt5
      try (have hlt23 := (Array.getElem?_eq_some_iff.1 H23.out).1; have H23' := Lib.hid (old_heap H23.out hb16); clear H23; have H23 := H23'; clear H23'; have hne16 : ∀ k, v16.ownBlock = some k → k ≠ g23 := fun k hk => (by have := (ho16.lt k hk).1; omega))
      clear ho16 hb16
      refine hK.out _ _ hnx (fun hHeld' => ?_)
      clear hK K hHeld hnx
      have hHeld := hHeld'
      clear hHeld'
      (try simp only [Act.put, List.setIfInBounds_toArray, List.set_cons_zero, List.set_cons_succ])
      refine fork2F (i := 3) (j := 7) (some 19) (some 23) #[true, true, true, true, true, true, true, false, false, false, false] #[true, true, true, false, true, true, true, true, false, false, false] rfl rfl rfl rfl (by kernel_rfl) (fun K hK => ?_) (fun K hK => ?_)
      · refine step_append_rd (by rfl) (.tmp 16) (.tmp 18) 41 (by rfl) w2.heap.size 63 (.agg (wrF wr0).toArray) 129 136 Try.underlying41 info_rwr3 (by simp [Value.cells, wrF_len]) (by decide) _ 0 [] (by rfl) HO16.out _ D.Q.length (rowsOf wrF D.Q) (by rfl) (rows_rd wrF_len (by decide) (HR.out.que.below wrF_len (HB2.out.trans (hHeld.2.2.2.mono (by omega))))) (rowsOf_one wrF_one _) (by omega) (by decide) hHeld.2.2.2.size ?_
        intro v19 w19 ho19 hb19 hg19
        rw [Nat.zero_add, List.nil_append] at ho19
        obtain ⟨s19, c19, rfl⟩ := own_slice1 ho19
        have HO19 := Lib.hid ho19
        have hnx := hHeld.mk' hb19 hlt3 hlt5
        try (have H23' := Lib.hid ((hg19.block g23 (Array.getElem?_eq_some_iff.1 H23.out).1 (fun e => hne16 g23 e.symm rfl)).trans H23.out); clear H23; have H23 := H23'; clear H23')
        clear ho19 hb19 hg19 HO16; try clear hne16
        refine hK.out _ _ hnx (fun hHeld' => ?_)
        clear hK K hHeld hnx
        have hHeld := hHeld'
        clear hHeld'
        (try simp only [Act.put, List.setIfInBounds_toArray, List.set_cons_zero, List.set_cons_succ])
        refine loud1F (i := 7) (some 23) #[true, true, true, true, true, true, true, true, false, false, false] rfl rfl (by kernel_rfl) (fun K hK => ?_)
        refine step_buildSlice (by rfl) 41 (.tmp 22) (by rfl) 63 (wrF wr0).toArray ws 129 136 Try.underlying41 info_rwr3 (by rfl) (by simp [wrF_len]) hwl (by decide) (by decide) ?_
        have hbA := fun (W : World) => (Below.refl W.heap.size W).alloc (Nat.le_refl _) (.cells ws.toArray 63)
        have hnx := hHeld.mk' ((hbA _).mono hHeld.2.2.2.size) hlt3 hlt5
        have H23 := Lib.hid (new_heap w19 (.cells ws.toArray 63 (0, 0)))
        try (have HO16' := Lib.hid (own_below HO16.out (hbA _)); have hne16 : ∀ k, v16.ownBlock = some k → k ≠ w19.heap.size := fun k hk => (by have := (own_block_lt HO16.out k hk); omega); clear HO16; have HO16 := HO16'; clear HO16')
        try (have HO19' := Lib.hid (own_below HO19.out (hbA _)); clear HO19; have HO19 := HO19'; clear HO19')
        clear hbA
        revert hnx H23 hK
        try revert hne16
        try revert HO16
        try revert HO19
        generalize w19.alloc (.cells ws.toArray 63) = w23
        generalize hg23 : w19.heap.size = g23
        intro HO19 hK hnx H23
        refine hK.out _ _ hnx (fun hHeld' => ?_)
        clear hK K hHeld hnx
        have hHeld := hHeld'
        clear hHeld'
        (try simp only [Act.put, List.setIfInBounds_toArray, List.set_cons_zero, List.set_cons_succ])
        refine loud1F (i := 8) (some 24) #[true, true, true, true, true, true, true, true, true, false, false] rfl rfl (by kernel_rfl) (fun K hK => ?_)
        refine step_append_rd (by rfl) (.tmp 19) (.tmp 23) 41 (by rfl) w2.heap.size 63 (.agg (wrF wr0).toArray) 129 136 Try.underlying41 info_rwr3 (by simp [Value.cells, wrF_len]) (by decide) _ D.Q.length (rowsOf wrF D.Q) (by rfl) HO19.out _ 1 ws (by rfl) (rd_row H23.out hwl 1) hwo (by omega) (by decide) hHeld.2.2.2.size ?_
        intro v24 w24 ho24 hb24 hg24
        obtain ⟨s24, c24, rfl⟩ := own_slice1 ho24
        have HO24 := Lib.hid ho24
        have hnx := hHeld.mk' hb24 hlt3 hlt5
        clear ho24 hb24 hg24 HO19 H23
        refine hK.out _ _ hnx (fun hHeld' => ?_)
        clear hK K hHeld hnx
        have hHeld := hHeld'
        clear hHeld'
        (try simp only [Act.put, List.setIfInBounds_toArray, List.set_cons_zero, List.set_cons_succ])
        refine loud1F (i := 9) (some 25) #[true, true, true, true, true, true, true, true, true, true, false] rfl rfl (by kernel_rfl) (fun K hK => ?_)
        go_simp
        refine hK.out _ _ hHeld (fun hHeld' => ?_)
        clear hK K hHeld
        have hHeld := hHeld'
        clear hHeld'
        (try simp only [Act.put, List.setIfInBounds_toArray, List.set_cons_zero, List.set_cons_succ])
        refine last1F none #[true, true, true, true, true, true, true, true, true, true, true] rfl rfl (by kernel_rfl) (fun K hK => ?_)
        have HS4 := Lib.hid hHeld.2.2.2
        obtain ⟨s1, s2, s3, s4⟩ := hHeld
        go_simp
        refine hK.out _ _ ?_
        clear hK K s1 s2 s3 s4
        (try simp only [Act.put, List.setIfInBounds_toArray, List.set_cons_zero, List.set_cons_succ])
        refine wpAnyF_done (by kernel_rfl) ?_ _
        have hx9 := head_set ((HS4.out.block w.heap.size hlt3).trans HX32.out) 1 (.slice s24 (D.Q.length + 1) c24)
        have hx96 := (Below.heap_setCell w24 ⟨w.heap.size, 1, none⟩ (.slice s24 (D.Q.length + 1) c24) (w.heap.size + 1 + 1) (by show w.heap.size + 1 + 1 ≠ w.heap.size; omega)).trans ((HS4.out.block (w.heap.size + 1 + 1) (by omega)).trans HX62.out)
        have hB9 : Below w.heap.size w (w24.setCell ⟨w.heap.size, 1, none⟩ (.slice s24 (D.Q.length + 1) c24)) := (bnext HB2.out HS4.out).setCell (p := ⟨w.heap.size, 1, none⟩) (Nat.le_refl _) _
        have hO9 := own_move (w' := w24.setCell ⟨w.heap.size, 1, none⟩ (.slice s24 (D.Q.length + 1) c24)) HO24.out (fun k hk => Below.heap_setCell _ _ _ _ (by have := (HO24.out.lt k hk).1; show k ≠ w.heap.size; omega))
        clear HO24 HS4
        revert hx9 hx96 hB9 hO9
        generalize w24.setCell ⟨w.heap.size, 1, none⟩ (.slice s24 (D.Q.length + 1) c24) = w9
        intro hx9 hx96 hB9 hO9
        have hr9 : RefAt w9 F (.slice A D.S.length c) (.slice s24 (D.Q.length + 1) c24) { D with Q := D.Q ++ [⟨at_, s⟩] } := ⟨HR.out.secs.below scF_len hB9, own_rows wrF_len (by rw [rowsOf_snoc, hws]; exact hO9) (by simp) (fun b hb hf => by have := hF b hf; omega)⟩
        have HDE := Lib.hid (rdeed3_any hr9 h1 h2)
        unfold RefTo rdV at HDE
        dsimp only at HDE
        have j0 : w9.cell? ⟨w.heap.size, 0, none⟩ = some (.slice A D.S.length c) := cell_row hx9 0
        have j1 : w9.cell? ⟨w.heap.size, 1, none⟩ = some (.slice s24 (D.Q.length + 1) c24) := by have := cell_row hx9 1; simpa using this
        have j2 : w9.cell? ⟨w.heap.size, 2, none⟩ = some (.bool D.dead) := cell_row hx9 2
        have j3 : w9.cell? ⟨w.heap.size, 3, none⟩ = some (.int .i64 D.arm) := cell_row hx9 3
        have j4 : w9.cell? ⟨w.heap.size, 4, none⟩ = some (.int .i64 D.deeds) := cell_row hx9 4
        have HR9 := Lib.hid hr9
        have HB9 := Lib.hid hB9
        have HX96 := Lib.hid hx96
        have HO9 := Lib.hid hO9
        clear hr9 hB9 hx96 hx9 hO9
        have hS9 : w.heap.size + 1 + 1 < w9.heap.size := (Array.getElem?_eq_some_iff.1 HX96.out).1
        go_wp2_with (first
          | (go_at_call 41; go_must (refine HDE.out.mono ?_; rintro e wA ⟨rfl, hbA⟩; have hxA := old_heap HX96.out hbA; have m0 := free_row hxA 0; have m1 := free_row hxA 1; have m2 := free_row hxA 2; have m3 := free_row hxA 3; have m4 := free_row hxA 4; have n0 : wA.cell? ⟨w.heap.size + 1 + 1, 0, none⟩ = some (.slice none 0 0) := cell_row hxA 0; have n1 : wA.cell? ⟨w.heap.size + 1 + 1, 1, none⟩ = some (.slice none 0 0) := cell_row hxA 1; have n2 : wA.cell? ⟨w.heap.size + 1 + 1, 2, none⟩ = some (.bool false) := cell_row hxA 2; have n3 : wA.cell? ⟨w.heap.size + 1 + 1, 3, none⟩ = some (.int .i64 0) := cell_row hxA 3; have n4 : wA.cell? ⟨w.heap.size + 1 + 1, 4, none⟩ = some (.int .i64 0) := cell_row hxA 4; have HXA := Lib.hid hxA; have HBA := Lib.hid hbA; clear hxA hbA j0 j1 j2 j3 j4)))
        rw [← set5]
        have h5 := set5_heap (a' := .slice A D.S.length c) (b' := .slice s24 (D.Q.length + 1) c24) (c' := .bool (deedD { D with Q := D.Q ++ [⟨at_, s⟩] }).1.dead) (d' := .int .i64 (deedD { D with Q := D.Q ++ [⟨at_, s⟩] }).1.arm) (e' := .int .i64 (deedD { D with Q := D.Q ++ [⟨at_, s⟩] }).1.deeds) HXA.out
        refine bodyPost_ret (results_cell2 Try.results30 rfl rfl (load_rdisk h5)) rfl ⟨_, _, rfl, ?_, set5_below (bnext HB9.out HBA.out) (by omega)⟩
        have hbF := set5_below (a := .slice A D.S.length c) (b := .slice s24 (D.Q.length + 1) c24) (c := .bool (deedD { D with Q := D.Q ++ [⟨at_, s⟩] }).1.dead) (d := .int .i64 (deedD { D with Q := D.Q ++ [⟨at_, s⟩] }).1.arm) (e := .int .i64 (deedD { D with Q := D.Q ++ [⟨at_, s⟩] }).1.deeds) (bnext HB9.out HBA.out) (show w.heap.size ≤ w.heap.size + 1 + 1 by omega)
        refine RefAt.deed ⟨HR.out.secs.below scF_len hbF, own_rows (T := 63) (base := w2.heap.size) (n := D.Q.length + 1) wrF_len ?_ (by simp) (fun b hb hf => by have := hF b hf; omega)⟩
        rw [rowsOf_snoc, hws]
        exact own_move (own_below HO9.out HBA.out) (fun k hk => set5_far (by have := (HO9.out.lt k hk).1; omega))
      · refine step_buildSlice (by rfl) 41 (.tmp 22) (by rfl) 63 (wrF wr0).toArray ws 129 136 Try.underlying41 info_rwr3 (by rfl) (by simp [wrF_len]) hwl (by decide) (by decide) ?_
        have hbA := fun (W : World) => (Below.refl W.heap.size W).alloc (Nat.le_refl _) (.cells ws.toArray 63)
        have hnx := hHeld.mk' ((hbA _).mono hHeld.2.2.2.size) hlt3 hlt5
        have H23 := Lib.hid (new_heap w16 (.cells ws.toArray 63 (0, 0)))
        try (have HO16' := Lib.hid (own_below HO16.out (hbA _)); have hne16 : ∀ k, v16.ownBlock = some k → k ≠ w16.heap.size := fun k hk => (by have := (own_block_lt HO16.out k hk); omega); clear HO16; have HO16 := HO16'; clear HO16')
        try (have HO19' := Lib.hid (own_below HO19.out (hbA _)); clear HO19; have HO19 := HO19'; clear HO19')
        clear hbA
        revert hnx H23 hK
        try revert hne16
        try revert HO16
        try revert HO19
        generalize w16.alloc (.cells ws.toArray 63) = w23
        generalize hg23 : w16.heap.size = g23
        intro HO16 hne16 hK hnx H23
        refine hK.out _ _ hnx (fun hHeld' => ?_)
        clear hK K hHeld hnx
        have hHeld := hHeld'
        clear hHeld'
        (try simp only [Act.put, List.setIfInBounds_toArray, List.set_cons_zero, List.set_cons_succ])
        refine loud1F (i := 3) (some 19) #[true, true, true, true, true, true, true, true, false, false, false] rfl rfl (by kernel_rfl) (fun K hK => ?_)
        refine step_append_rd (by rfl) (.tmp 16) (.tmp 18) 41 (by rfl) w2.heap.size 63 (.agg (wrF wr0).toArray) 129 136 Try.underlying41 info_rwr3 (by simp [Value.cells, wrF_len]) (by decide) _ 0 [] (by rfl) HO16.out _ D.Q.length (rowsOf wrF D.Q) (by rfl) (rows_rd wrF_len (by decide) (HR.out.que.below wrF_len (HB2.out.trans (hHeld.2.2.2.mono (by omega))))) (rowsOf_one wrF_one _) (by omega) (by decide) hHeld.2.2.2.size ?_
        intro v19 w19 ho19 hb19 hg19
        rw [Nat.zero_add, List.nil_append] at ho19
        obtain ⟨s19, c19, rfl⟩ := own_slice1 ho19
        have HO19 := Lib.hid ho19
        have hnx := hHeld.mk' hb19 hlt3 hlt5
        try (have H23' := Lib.hid ((hg19.block g23 (Array.getElem?_eq_some_iff.1 H23.out).1 (fun e => hne16 g23 e.symm rfl)).trans H23.out); clear H23; have H23 := H23'; clear H23')
        clear ho19 hb19 hg19 HO16; try clear hne16
        refine hK.out _ _ hnx (fun hHeld' => ?_)
        clear hK K hHeld hnx
        have hHeld := hHeld'
        clear hHeld'
        (try simp only [Act.put, List.setIfInBounds_toArray, List.set_cons_zero, List.set_cons_succ])
        refine loud1F (i := 8) (some 24) #[true, true, true, true, true, true, true, true, true, false, false] rfl rfl (by kernel_rfl) (fun K hK => ?_)
        refine step_append_rd (by rfl) (.tmp 19) (.tmp 23) 41 (by rfl) w2.heap.size 63 (.agg (wrF wr0).toArray) 129 136 Try.underlying41 info_rwr3 (by simp [Value.cells, wrF_len]) (by decide) _ D.Q.length (rowsOf wrF D.Q) (by rfl) HO19.out _ 1 ws (by rfl) (rd_row H23.out hwl 1) hwo (by omega) (by decide) hHeld.2.2.2.size ?_
        intro v24 w24 ho24 hb24 hg24
        obtain ⟨s24, c24, rfl⟩ := own_slice1 ho24
        have HO24 := Lib.hid ho24
        have hnx := hHeld.mk' hb24 hlt3 hlt5
        clear ho24 hb24 hg24 HO19 H23
        refine hK.out _ _ hnx (fun hHeld' => ?_)
        clear hK K hHeld hnx
        have hHeld := hHeld'
        clear hHeld'
        (try simp only [Act.put, List.setIfInBounds_toArray, List.set_cons_zero, List.set_cons_succ])
        refine loud1F (i := 9) (some 25) #[true, true, true, true, true, true, true, true, true, true, false] rfl rfl (by kernel_rfl) (fun K hK => ?_)
        go_simp
        refine hK.out _ _ hHeld (fun hHeld' => ?_)
        clear hK K hHeld
        have hHeld := hHeld'
        clear hHeld'
        (try simp only [Act.put, List.setIfInBounds_toArray, List.set_cons_zero, List.set_cons_succ])
        refine last1F none #[true, true, true, true, true, true, true, true, true, true, true] rfl rfl (by kernel_rfl) (fun K hK => ?_)
        have HS4 := Lib.hid hHeld.2.2.2
        obtain ⟨s1, s2, s3, s4⟩ := hHeld
        go_simp
        refine hK.out _ _ ?_
        clear hK K s1 s2 s3 s4
        (try simp only [Act.put, List.setIfInBounds_toArray, List.set_cons_zero, List.set_cons_succ])
        refine wpAnyF_done (by kernel_rfl) ?_ _
        have hx9 := head_set ((HS4.out.block w.heap.size hlt3).trans HX32.out) 1 (.slice s24 (D.Q.length + 1) c24)
        have hx96 := (Below.heap_setCell w24 ⟨w.heap.size, 1, none⟩ (.slice s24 (D.Q.length + 1) c24) (w.heap.size + 1 + 1) (by show w.heap.size + 1 + 1 ≠ w.heap.size; omega)).trans ((HS4.out.block (w.heap.size + 1 + 1) (by omega)).trans HX62.out)
        have hB9 : Below w.heap.size w (w24.setCell ⟨w.heap.size, 1, none⟩ (.slice s24 (D.Q.length + 1) c24)) := (bnext HB2.out HS4.out).setCell (p := ⟨w.heap.size, 1, none⟩) (Nat.le_refl _) _
        have hO9 := own_move (w' := w24.setCell ⟨w.heap.size, 1, none⟩ (.slice s24 (D.Q.length + 1) c24)) HO24.out (fun k hk => Below.heap_setCell _ _ _ _ (by have := (HO24.out.lt k hk).1; show k ≠ w.heap.size; omega))
        clear HO24 HS4
        revert hx9 hx96 hB9 hO9
        generalize w24.setCell ⟨w.heap.size, 1, none⟩ (.slice s24 (D.Q.length + 1) c24) = w9
        intro hx9 hx96 hB9 hO9
        have hr9 : RefAt w9 F (.slice A D.S.length c) (.slice s24 (D.Q.length + 1) c24) { D with Q := D.Q ++ [⟨at_, s⟩] } := ⟨HR.out.secs.below scF_len hB9, own_rows wrF_len (by rw [rowsOf_snoc, hws]; exact hO9) (by simp) (fun b hb hf => by have := hF b hf; omega)⟩
        have HDE := Lib.hid (rdeed3_any hr9 h1 h2)
        unfold RefTo rdV at HDE
        dsimp only at HDE
        have j0 : w9.cell? ⟨w.heap.size, 0, none⟩ = some (.slice A D.S.length c) := cell_row hx9 0
        have j1 : w9.cell? ⟨w.heap.size, 1, none⟩ = some (.slice s24 (D.Q.length + 1) c24) := by have := cell_row hx9 1; simpa using this
        have j2 : w9.cell? ⟨w.heap.size, 2, none⟩ = some (.bool D.dead) := cell_row hx9 2
        have j3 : w9.cell? ⟨w.heap.size, 3, none⟩ = some (.int .i64 D.arm) := cell_row hx9 3
        have j4 : w9.cell? ⟨w.heap.size, 4, none⟩ = some (.int .i64 D.deeds) := cell_row hx9 4
        have HR9 := Lib.hid hr9
        have HB9 := Lib.hid hB9
        have HX96 := Lib.hid hx96
        have HO9 := Lib.hid hO9
        clear hr9 hB9 hx96 hx9 hO9
        have hS9 : w.heap.size + 1 + 1 < w9.heap.size := (Array.getElem?_eq_some_iff.1 HX96.out).1
        go_wp2_with (first
          | (go_at_call 41; go_must (refine HDE.out.mono ?_; rintro e wA ⟨rfl, hbA⟩; have hxA := old_heap HX96.out hbA; have m0 := free_row hxA 0; have m1 := free_row hxA 1; have m2 := free_row hxA 2; have m3 := free_row hxA 3; have m4 := free_row hxA 4; have n0 : wA.cell? ⟨w.heap.size + 1 + 1, 0, none⟩ = some (.slice none 0 0) := cell_row hxA 0; have n1 : wA.cell? ⟨w.heap.size + 1 + 1, 1, none⟩ = some (.slice none 0 0) := cell_row hxA 1; have n2 : wA.cell? ⟨w.heap.size + 1 + 1, 2, none⟩ = some (.bool false) := cell_row hxA 2; have n3 : wA.cell? ⟨w.heap.size + 1 + 1, 3, none⟩ = some (.int .i64 0) := cell_row hxA 3; have n4 : wA.cell? ⟨w.heap.size + 1 + 1, 4, none⟩ = some (.int .i64 0) := cell_row hxA 4; have HXA := Lib.hid hxA; have HBA := Lib.hid hbA; clear hxA hbA j0 j1 j2 j3 j4)))
        rw [← set5]
        have h5 := set5_heap (a' := .slice A D.S.length c) (b' := .slice s24 (D.Q.length + 1) c24) (c' := .bool (deedD { D with Q := D.Q ++ [⟨at_, s⟩] }).1.dead) (d' := .int .i64 (deedD { D with Q := D.Q ++ [⟨at_, s⟩] }).1.arm) (e' := .int .i64 (deedD { D with Q := D.Q ++ [⟨at_, s⟩] }).1.deeds) HXA.out
        refine bodyPost_ret (results_cell2 Try.results30 rfl rfl (load_rdisk h5)) rfl ⟨_, _, rfl, ?_, set5_below (bnext HB9.out HBA.out) (by omega)⟩
        have hbF := set5_below (a := .slice A D.S.length c) (b := .slice s24 (D.Q.length + 1) c24) (c := .bool (deedD { D with Q := D.Q ++ [⟨at_, s⟩] }).1.dead) (d := .int .i64 (deedD { D with Q := D.Q ++ [⟨at_, s⟩] }).1.arm) (e := .int .i64 (deedD { D with Q := D.Q ++ [⟨at_, s⟩] }).1.deeds) (bnext HB9.out HBA.out) (show w.heap.size ≤ w.heap.size + 1 + 1 by omega)
        refine RefAt.deed ⟨HR.out.secs.below scF_len hbF, own_rows (T := 63) (base := w2.heap.size) (n := D.Q.length + 1) wrF_len ?_ (by simp) (fun b hb hf => by have := hF b hf; omega)⟩
        rw [rowsOf_snoc, hws]
        exact own_move (own_below HO9.out HBA.out) (fun k hk => set5_far (by have := (HO9.out.lt k hk).1; omega))
    · refine step_buildSlice (by rfl) 41 (.tmp 22) (by rfl) 63 (wrF wr0).toArray ws 129 136 Try.underlying41 info_rwr3 (by rfl) (by simp [wrF_len]) hwl (by decide) (by decide) ?_
      have hbA := fun (W : World) => (Below.refl W.heap.size W).alloc (Nat.le_refl _) (.cells ws.toArray 63)
      have hnx := hHeld.mk' ((hbA _).mono hHeld.2.2.2.size) hlt3 hlt5
      have H23 := Lib.hid (new_heap w2.drew (.cells ws.toArray 63 (0, 0)))
      try (have HO16' := Lib.hid (own_below HO16.out (hbA _)); have hne16 : ∀ k, v16.ownBlock = some k → k ≠ w2.drew.heap.size := fun k hk => (by have := (own_block_lt HO16.out k hk); omega); clear HO16; have HO16 := HO16'; clear HO16')
      try (have HO19' := Lib.hid (own_below HO19.out (hbA _)); clear HO19; have HO19 := HO19'; clear HO19')
      clear hbA
      revert hnx H23 hK
      try revert hne16
      try revert HO16
      try revert HO19
      generalize w2.drew.alloc (.cells ws.toArray 63) = w23
      generalize hg23 : w2.drew.heap.size = g23
      intro hK hnx H23
      refine hK.out _ _ hnx (fun hHeld' => ?_)
      clear hK K hHeld hnx
      have hHeld := hHeld'
      clear hHeld'
      (try simp only [Act.put, List.setIfInBounds_toArray, List.set_cons_zero, List.set_cons_succ])
      refine loud1F (i := 0) (some 16) #[true, true, true, false, true, true, true, true, false, false, false] rfl rfl (by kernel_rfl) (fun K hK => ?_)
      refine step_buildSlice0 (by rfl) 41 (by rfl) 63 (.agg (wrF wr0).toArray) 129 136 Try.underlying41 info_rwr3 (by decide) (by decide) ?_
      intro v16 w16 ho16 hb16
      have HO16 := Lib.hid (own_low ho16 hHeld.2.2.2.size)
      have hnx := hHeld.mk' (hb16.mono hHeld.2.2.2.size) hlt3 hlt5
      try (have hlt23 := (Array.getElem?_eq_some_iff.1 H23.out).1; have H23' := Lib.hid (old_heap H23.out hb16); clear H23; have H23 := H23'; clear H23'; have hne16 : ∀ k, v16.ownBlock = some k → k ≠ g23 := fun k hk => (by have := (ho16.lt k hk).1; omega))
      clear ho16 hb16
      refine hK.out _ _ hnx (fun hHeld' => ?_)
      clear hK K hHeld hnx
      have hHeld := hHeld'
      clear hHeld'
      (try simp only [Act.put, List.setIfInBounds_toArray, List.set_cons_zero, List.set_cons_succ])
      refine loud1F (i := 3) (some 19) #[true, true, true, true, true, true, true, true, false, false, false] rfl rfl (by kernel_rfl) (fun K hK => ?_)
      refine step_append_rd (by rfl) (.tmp 16) (.tmp 18) 41 (by rfl) w2.heap.size 63 (.agg (wrF wr0).toArray) 129 136 Try.underlying41 info_rwr3 (by simp [Value.cells, wrF_len]) (by decide) _ 0 [] (by rfl) HO16.out _ D.Q.length (rowsOf wrF D.Q) (by rfl) (rows_rd wrF_len (by decide) (HR.out.que.below wrF_len (HB2.out.trans (hHeld.2.2.2.mono (by omega))))) (rowsOf_one wrF_one _) (by omega) (by decide) hHeld.2.2.2.size ?_
      intro v19 w19 ho19 hb19 hg19
      rw [Nat.zero_add, List.nil_append] at ho19
      obtain ⟨s19, c19, rfl⟩ := own_slice1 ho19
      have HO19 := Lib.hid ho19
      have hnx := hHeld.mk' hb19 hlt3 hlt5
      try (have H23' := Lib.hid ((hg19.block g23 (Array.getElem?_eq_some_iff.1 H23.out).1 (fun e => hne16 g23 e.symm rfl)).trans H23.out); clear H23; have H23 := H23'; clear H23')
      clear ho19 hb19 hg19 HO16; try clear hne16
      refine hK.out _ _ hnx (fun hHeld' => ?_)
      clear hK K hHeld hnx
      have hHeld := hHeld'
      clear hHeld'
      (try simp only [Act.put, List.setIfInBounds_toArray, List.set_cons_zero, List.set_cons_succ])
      refine loud1F (i := 8) (some 24) #[true, true, true, true, true, true, true, true, true, false, false] rfl rfl (by kernel_rfl) (fun K hK => ?_)
      refine step_append_rd (by rfl) (.tmp 19) (.tmp 23) 41 (by rfl) w2.heap.size 63 (.agg (wrF wr0).toArray) 129 136 Try.underlying41 info_rwr3 (by simp [Value.cells, wrF_len]) (by decide) _ D.Q.length (rowsOf wrF D.Q) (by rfl) HO19.out _ 1 ws (by rfl) (rd_row H23.out hwl 1) hwo (by omega) (by decide) hHeld.2.2.2.size ?_
      intro v24 w24 ho24 hb24 hg24
      obtain ⟨s24, c24, rfl⟩ := own_slice1 ho24
      have HO24 := Lib.hid ho24
      have hnx := hHeld.mk' hb24 hlt3 hlt5
      clear ho24 hb24 hg24 HO19 H23
      refine hK.out _ _ hnx (fun hHeld' => ?_)
      clear hK K hHeld hnx
      have hHeld := hHeld'
      clear hHeld'
      (try simp only [Act.put, List.setIfInBounds_toArray, List.set_cons_zero, List.set_cons_succ])
      refine loud1F (i := 9) (some 25) #[true, true, true, true, true, true, true, true, true, true, false] rfl rfl (by kernel_rfl) (fun K hK => ?_)
      go_simp
      refine hK.out _ _ hHeld (fun hHeld' => ?_)
      clear hK K hHeld
      have hHeld := hHeld'
      clear hHeld'
      (try simp only [Act.put, List.setIfInBounds_toArray, List.set_cons_zero, List.set_cons_succ])
      refine last1F none #[true, true, true, true, true, true, true, true, true, true, true] rfl rfl (by kernel_rfl) (fun K hK => ?_)
      have HS4 := Lib.hid hHeld.2.2.2
      obtain ⟨s1, s2, s3, s4⟩ := hHeld
      go_simp
      refine hK.out _ _ ?_
      clear hK K s1 s2 s3 s4
      (try simp only [Act.put, List.setIfInBounds_toArray, List.set_cons_zero, List.set_cons_succ])
      refine wpAnyF_done (by kernel_rfl) ?_ _
      have hx9 := head_set ((HS4.out.block w.heap.size hlt3).trans HX32.out) 1 (.slice s24 (D.Q.length + 1) c24)
      have hx96 := (Below.heap_setCell w24 ⟨w.heap.size, 1, none⟩ (.slice s24 (D.Q.length + 1) c24) (w.heap.size + 1 + 1) (by show w.heap.size + 1 + 1 ≠ w.heap.size; omega)).trans ((HS4.out.block (w.heap.size + 1 + 1) (by omega)).trans HX62.out)
      have hB9 : Below w.heap.size w (w24.setCell ⟨w.heap.size, 1, none⟩ (.slice s24 (D.Q.length + 1) c24)) := (bnext HB2.out HS4.out).setCell (p := ⟨w.heap.size, 1, none⟩) (Nat.le_refl _) _
      have hO9 := own_move (w' := w24.setCell ⟨w.heap.size, 1, none⟩ (.slice s24 (D.Q.length + 1) c24)) HO24.out (fun k hk => Below.heap_setCell _ _ _ _ (by have := (HO24.out.lt k hk).1; show k ≠ w.heap.size; omega))
      clear HO24 HS4
      revert hx9 hx96 hB9 hO9
      generalize w24.setCell ⟨w.heap.size, 1, none⟩ (.slice s24 (D.Q.length + 1) c24) = w9
      intro hx9 hx96 hB9 hO9
      have hr9 : RefAt w9 F (.slice A D.S.length c) (.slice s24 (D.Q.length + 1) c24) { D with Q := D.Q ++ [⟨at_, s⟩] } := ⟨HR.out.secs.below scF_len hB9, own_rows wrF_len (by rw [rowsOf_snoc, hws]; exact hO9) (by simp) (fun b hb hf => by have := hF b hf; omega)⟩
      have HDE := Lib.hid (rdeed3_any hr9 h1 h2)
      unfold RefTo rdV at HDE
      dsimp only at HDE
      have j0 : w9.cell? ⟨w.heap.size, 0, none⟩ = some (.slice A D.S.length c) := cell_row hx9 0
      have j1 : w9.cell? ⟨w.heap.size, 1, none⟩ = some (.slice s24 (D.Q.length + 1) c24) := by have := cell_row hx9 1; simpa using this
      have j2 : w9.cell? ⟨w.heap.size, 2, none⟩ = some (.bool D.dead) := cell_row hx9 2
      have j3 : w9.cell? ⟨w.heap.size, 3, none⟩ = some (.int .i64 D.arm) := cell_row hx9 3
      have j4 : w9.cell? ⟨w.heap.size, 4, none⟩ = some (.int .i64 D.deeds) := cell_row hx9 4
      have HR9 := Lib.hid hr9
      have HB9 := Lib.hid hB9
      have HX96 := Lib.hid hx96
      have HO9 := Lib.hid hO9
      clear hr9 hB9 hx96 hx9 hO9
      have hS9 : w.heap.size + 1 + 1 < w9.heap.size := (Array.getElem?_eq_some_iff.1 HX96.out).1
      go_wp2_with (first
        | (go_at_call 41; go_must (refine HDE.out.mono ?_; rintro e wA ⟨rfl, hbA⟩; have hxA := old_heap HX96.out hbA; have m0 := free_row hxA 0; have m1 := free_row hxA 1; have m2 := free_row hxA 2; have m3 := free_row hxA 3; have m4 := free_row hxA 4; have n0 : wA.cell? ⟨w.heap.size + 1 + 1, 0, none⟩ = some (.slice none 0 0) := cell_row hxA 0; have n1 : wA.cell? ⟨w.heap.size + 1 + 1, 1, none⟩ = some (.slice none 0 0) := cell_row hxA 1; have n2 : wA.cell? ⟨w.heap.size + 1 + 1, 2, none⟩ = some (.bool false) := cell_row hxA 2; have n3 : wA.cell? ⟨w.heap.size + 1 + 1, 3, none⟩ = some (.int .i64 0) := cell_row hxA 3; have n4 : wA.cell? ⟨w.heap.size + 1 + 1, 4, none⟩ = some (.int .i64 0) := cell_row hxA 4; have HXA := Lib.hid hxA; have HBA := Lib.hid hbA; clear hxA hbA j0 j1 j2 j3 j4)))
      rw [← set5]
      have h5 := set5_heap (a' := .slice A D.S.length c) (b' := .slice s24 (D.Q.length + 1) c24) (c' := .bool (deedD { D with Q := D.Q ++ [⟨at_, s⟩] }).1.dead) (d' := .int .i64 (deedD { D with Q := D.Q ++ [⟨at_, s⟩] }).1.arm) (e' := .int .i64 (deedD { D with Q := D.Q ++ [⟨at_, s⟩] }).1.deeds) HXA.out
      refine bodyPost_ret (results_cell2 Try.results30 rfl rfl (load_rdisk h5)) rfl ⟨_, _, rfl, ?_, set5_below (bnext HB9.out HBA.out) (by omega)⟩
      have hbF := set5_below (a := .slice A D.S.length c) (b := .slice s24 (D.Q.length + 1) c24) (c := .bool (deedD { D with Q := D.Q ++ [⟨at_, s⟩] }).1.dead) (d := .int .i64 (deedD { D with Q := D.Q ++ [⟨at_, s⟩] }).1.arm) (e := .int .i64 (deedD { D with Q := D.Q ++ [⟨at_, s⟩] }).1.deeds) (bnext HB9.out HBA.out) (show w.heap.size ≤ w.heap.size + 1 + 1 by omega)
      refine RefAt.deed ⟨HR.out.secs.below scF_len hbF, own_rows (T := 63) (base := w2.heap.size) (n := D.Q.length + 1) wrF_len ?_ (by simp) (fun b hb hf => by have := hF b hf; omega)⟩
      rw [rowsOf_snoc, hws]
      exact own_move (own_below HO9.out HBA.out) (fun k hk => set5_far (by have := (HO9.out.lt k hk).1; omega))
  · have hW : writeD D at_ s = (D, mayE D at_) := by unfold writeD; rw [if_neg hE]
    rw [hW]
    have hne : (mayE D at_ != 0) = true := by simpa using hE
    dsimp only
    generalize mayE D at_ = E at *
    go_enter Try.func30, Try.ntmps30
    go_upto_region 1 with fail
    rw [HW1.out]
    go_wp2_with (first
      | (go_at_call 40; go_must (refine HM.out.mono ?_; rintro e wA ⟨rfl, hb2⟩; have hxA := old_heap HX6.out hb2; have hx3 := old_heap HX3.out hb2; clear k0 k1 k2 k3 k4; have j0 : wA.cell? ⟨w.heap.size, 0, none⟩ = some (.slice A D.S.length c) := cell_row hx3 0; have j1 : wA.cell? ⟨w.heap.size, 1, none⟩ = some (.slice A2 D.Q.length c2) := cell_row hx3 1; have j2 : wA.cell? ⟨w.heap.size, 2, none⟩ = some (.bool D.dead) := cell_row hx3 2; have j3 : wA.cell? ⟨w.heap.size, 3, none⟩ = some (.int .i64 D.arm) := cell_row hx3 3; have j4 : wA.cell? ⟨w.heap.size, 4, none⟩ = some (.int .i64 D.deeds) := cell_row hx3 4; have m0 := free_row hxA 0; have m1 := free_row hxA 1; have m2 := free_row hxA 2; have m3 := free_row hxA 3; have m4 := free_row hxA 4; have n0 : wA.cell? ⟨w.heap.size + 1 + 1, 0, none⟩ = some (.slice none 0 0) := cell_row hxA 0; have n1 : wA.cell? ⟨w.heap.size + 1 + 1, 1, none⟩ = some (.slice none 0 0) := cell_row hxA 1; have n2 : wA.cell? ⟨w.heap.size + 1 + 1, 2, none⟩ = some (.bool false) := cell_row hxA 2; have n3 : wA.cell? ⟨w.heap.size + 1 + 1, 3, none⟩ = some (.int .i64 0) := cell_row hxA 3; have n4 : wA.cell? ⟨w.heap.size + 1 + 1, 4, none⟩ = some (.int .i64 0) := cell_row hxA 4; have HXA := Lib.hid hxA; have HB2 := Lib.hid (bnext HB1.out hb2); clear hxA hx3 hb2)))
    rw [← set5]
    have h5 := set5_heap (a' := .slice A D.S.length c) (b' := .slice A2 D.Q.length c2) (c' := .bool D.dead) (d' := .int .i64 D.arm) (e' := .int .i64 D.deeds) HXA.out
    have hbF := set5_below (a := .slice A D.S.length c) (b := .slice A2 D.Q.length c2) (c := .bool D.dead) (d := .int .i64 D.arm) (e := .int .i64 D.deeds) HB2.out (show w.heap.size ≤ w.heap.size + 1 + 1 by omega)
    exact bodyPost_ret (results_cell2 Try.results30 rfl rfl (load_rdisk h5)) rfl ⟨_, _, rfl, HR.out.below hbF, hbF⟩
end Go.Proofs.Ytiehfaiadhhndaa
