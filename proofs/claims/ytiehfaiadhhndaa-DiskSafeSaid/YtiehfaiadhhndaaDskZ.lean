/-
  Disk: the law's Do: a read, a look, and all acts.
-/
import Derived.Test.YtiehfaiadhhndaaDskY
namespace Go.Proofs.Ytiehfaiadhhndaa
open Go.RowKit
set_option linter.unusedVariables false
set_option linter.unusedSimpArgs false
set_option linter.unnecessarySimpa false
def R9S (b4 : Nat) (v : Array Value) (b1 b2 : Nat) (cs : List Value) (w' : World) : Prop := (w'.cell? ⟨b4, 0, none⟩ = some (v[0]!) ∧ w'.cell? ⟨b4, 1, none⟩ = some (v[1]!) ∧ w'.cell? ⟨b4, 2, none⟩ = some (v[2]!) ∧ w'.cell? ⟨b4, 3, none⟩ = some (v[3]!) ∧ w'.cell? ⟨b4, 4, none⟩ = some (v[4]!)) ∧
    w'.rangeAt b1 0 cs ∧ w'.rangeAt b2 0 cs
theorem R9S.set {b4 b1 b2 g : Nat} {v : Array Value} {cs : List Value} {w : World} {a b c d e : Value} (h : R9S b4 v b1 b2 cs w) (h4 : b4 ≠ g) (h1 : b1 ≠ g) (h2 : b2 ≠ g) : R9S b4 v b1 b2 cs (set5 w g a b c d e) := by
  have far : ∀ k o, k ≠ g → (set5 w g a b c d e).cell? ⟨k, o, none⟩ = w.cell? ⟨k, o, none⟩ := fun k o hk => World.cell?_of_block (a := ⟨k, o, none⟩) (set5_far hk)
  exact ⟨⟨(far _ _ h4).trans h.1.1, (far _ _ h4).trans h.1.2.1, (far _ _ h4).trans h.1.2.2.1, (far _ _ h4).trans h.1.2.2.2.1, (far _ _ h4).trans h.1.2.2.2.2⟩, fun j u hu => (far _ _ h1).trans (h.2.1 j u hu), fun j u hu => (far _ _ h2).trans (h.2.2 j u hu)⟩
set_option maxRecDepth 100000 in
set_option maxHeartbeats 8000000 in
theorem ldo_read {X : Nat → Prop} {w0 w : World} {p gS m : Nat} {vq vS vQ : Value} {D : Dk} (h : DkAt w w0.heap.size p gS vq D) (hr : RefAt w (FtX X p gS vq) vS vQ D) (hX : ∀ k, X k → k < w.heap.size) (hlen : D.Q.length ≤ 1000) (a : Ac) (hb : Below w0.heap.size w0 w) (hk : a.kind = 1) :
    Calls Try.prog 19 #[.pointer (some ⟨p, 0, none⟩), rdV D vS vQ, .agg (acV a).toArray] w (DoTo X w0 w p gS vq D) := by
  have HR := Lib.hid hr
  obtain ⟨A, c, rfl, _⟩ := hr.secs
  obtain ⟨A2, c2, rfl, _⟩ := hr.que
  have HB := Lib.hid hb
  have HFl := Lib.hid (Ft.lt h)
  have HD := Lib.hid h
  unfold rdV acV
  rw [hk]
  obtain ⟨w1, hw1, hb1, hx4, hx5, hx6, hsz1⟩ := acts_boxes w (.slice A D.S.length c) (.slice A2 D.Q.length c2) (.bool D.dead) (.int .i64 D.arm) (.int .i64 D.deeds) (.int .i64 1) (.int .i64 a.at_) a.vS (.slice a.A a.K.length a.c)
  have HX4 := Lib.hid hx4
  have HX5 := Lib.hid hx5
  have HX6 := Lib.hid hx6
  have HB1 := Lib.hid hb1
  have HW1 := Lib.hid hw1
  have HRD := Lib.hid (dread_any a.at_ (h.below hb1) hlen)
  unfold RdEnd at HRD
  rw [← scF_sec] at HRD
  obtain ⟨cs, hcs, hcl, hone⟩ : ∃ cs : List Value, scF (readS D a.at_) = cs ∧ cs.length = 128 ∧ ∀ v ∈ cs, v.oneCell' = true := ⟨_, rfl, scF_len _, scF_one _⟩
  have heq : ∀ W : World, (Op.equalIn 10000 31 (.agg cs.toArray) (.agg cs.toArray)).run Try.prog W = .ok true W := fun W => by rw [← hcs]; have := equal_sc W (readS D a.at_) (readS D a.at_); simpa using this
  have hRR := fun W (hb : Below w.heap.size w W) => Lib.hid (rread3_any (w := W) a.at_ (HR.out.below hb) hlen)
  unfold RdEnd rdV at hRR
  simp only [← scF_sec] at hRR
  rw [hcs] at HRD hRR
  obtain ⟨E, hE⟩ : ∃ E, mayE D a.at_ = E := ⟨_, rfl⟩
  rw [hE] at HRD hRR
  have j0 : w1.cell? ⟨w.heap.size + 1, 0, none⟩ = some (.int .i64 1) := cell_row hx5 0; have j1 : w1.cell? ⟨w.heap.size + 1, 1, none⟩ = some (.int .i64 a.at_) := cell_row hx5 1; have j2 : w1.cell? ⟨w.heap.size + 1, 2, none⟩ = some (a.vS) := cell_row hx5 2; have j3 : w1.cell? ⟨w.heap.size + 1, 3, none⟩ = some (.slice a.A a.K.length a.c) := cell_row hx5 3
  have hzs := zero_sec
  have hza := zero_arr
  clear h hr hb hw1 hb1 hx4 hx5 hx6 hcs hE
  go_enter Try.func19, Try.ntmps19
  go_upto_region 1 with fail
  rw [HW1.out]
  go_upto_region 8 with (first
    | (go_at_call 14; go_must (refine HRD.out.mono ?_; rintro e w4 ⟨rfl, hb4⟩; have HB4 := Lib.hid hb4; have hsz4 := hb4.size; clear hb4))
    | (refine wpList_store_row rfl 31 (.tmp 11) (.tmp 50) rfl w4.heap.size zArr cs.toArray 31 rfl rfl (heap_alloc_last _ _) (by simp only [List.size_toArray]; rw [hcl]; exact size_sec) (by simp [hcl, zArr_size]) (all_oneCell_toArray hone) ?_))
  rw [World.setRow_alloc_new]
  have hx8 := new_heap w4 (.cells cs.toArray 31 (0, 0))
  have hb8 : Below w4.heap.size w4 (w4.alloc (.cells cs.toArray 31)) := (Below.refl _ w4).alloc (Nat.le_refl _) _
  have hbo8 := HB4.out.trans (hb8.mono HB4.out.size)
  have hsz8 : w4.heap.size < (w4.alloc (.cells cs.toArray 31)).heap.size := by simp
  clear hb8 j0 j1 j2 j3 HRD
  revert hx8 hbo8 hsz8
  generalize w4.alloc (.cells cs.toArray 31) = w8
  generalize w4.heap.size = p8 at hsz4 ⊢
  intro hx8 hbo8 hsz8
  have HX8 := Lib.hid hx8
  have HB8 := Lib.hid hbo8
  have HRR := hRR w8 (bnext HB1.out HB8.out)
  have hxr := old_heap HX4.out HB8.out
  have hx5 := old_heap HX5.out HB8.out
  have j0 : w8.cell? ⟨w.heap.size, 0, none⟩ = some (.slice A D.S.length c) := cell_row hxr 0; have j1 : w8.cell? ⟨w.heap.size, 1, none⟩ = some (.slice A2 D.Q.length c2) := cell_row hxr 1; have j2 : w8.cell? ⟨w.heap.size, 2, none⟩ = some (.bool D.dead) := cell_row hxr 2; have j3 : w8.cell? ⟨w.heap.size, 3, none⟩ = some (.int .i64 D.arm) := cell_row hxr 3; have j4 : w8.cell? ⟨w.heap.size, 4, none⟩ = some (.int .i64 D.deeds) := cell_row hxr 4
  have k0 : w8.cell? ⟨w.heap.size + 1, 0, none⟩ = some (.int .i64 1) := cell_row hx5 0; have k1 : w8.cell? ⟨w.heap.size + 1, 1, none⟩ = some (.int .i64 a.at_) := cell_row hx5 1; have k2 : w8.cell? ⟨w.heap.size + 1, 2, none⟩ = some (a.vS) := cell_row hx5 2; have k3 : w8.cell? ⟨w.heap.size + 1, 3, none⟩ = some (.slice a.A a.K.length a.c) := cell_row hx5 3
  clear hx8 hbo8 hxr hRR HB4 hx5 HW1
  go_upto_region 9 with (first
    | (go_at_call 31; go_must (refine HRR.out.mono ?_; rintro e w9 ⟨rfl, hb9⟩; have HB9 := Lib.hid (HB8.out.trans (hb9.mono HB8.out.size)); have HX9 := Lib.hid (old_heap HX8.out hb9); have hsz9 := hb9.size; clear hb9))
    | (refine wpList_store_row rfl 30 (.tmp 13) (.tmp 57) rfl w9.heap.size zArr cs.toArray 30 rfl rfl (heap_alloc_last _ _) (by simp only [List.size_toArray]; rw [hcl]; exact size_arr) (by simp [hcl, zArr_size]) (all_oneCell_toArray hone) ?_))
  rw [World.setRow_alloc_new]
  have hxA := new_heap w9 (.cells cs.toArray 30 (0, 0))
  have hbA : Below w9.heap.size w9 (w9.alloc (.cells cs.toArray 30)) := (Below.refl _ w9).alloc (Nat.le_refl _) _
  have hx8A := old_heap HX9.out hbA
  have hboA := HB9.out.trans (hbA.mono HB9.out.size)
  clear hbA j0 j1 j2 j3 j4 k0 k1 k2 k3 HRR HX8 HB8 HX9 HB9
  revert hxA hx8A hboA
  generalize w9.alloc (.cells cs.toArray 30) = wA
  generalize w9.heap.size = pA at hsz9 ⊢
  intro hxA hx8A hboA
  have hx4 := old_heap HX4.out hboA
  have hx6 := old_heap HX6.out hboA
  have hR9 : R9S w.heap.size #[.slice A D.S.length c, .slice A2 D.Q.length c2, .bool D.dead, .int .i64 D.arm, .int .i64 D.deeds] p8 pA cs wA := ⟨⟨cell_row hx4 0, cell_row hx4 1, cell_row hx4 2, cell_row hx4 3, cell_row hx4 4⟩, box_range hx8A, box_range hxA⟩
  have HR9 := Lib.hid hR9
  have n0 : wA.cell? ⟨w.heap.size + 1 + 1, 0, none⟩ = some (.slice none 0 0) := cell_row hx6 0; have n1 : wA.cell? ⟨w.heap.size + 1 + 1, 1, none⟩ = some (.slice none 0 0) := cell_row hx6 1; have n2 : wA.cell? ⟨w.heap.size + 1 + 1, 2, none⟩ = some (.bool false) := cell_row hx6 2; have n3 : wA.cell? ⟨w.heap.size + 1 + 1, 3, none⟩ = some (.int .i64 0) := cell_row hx6 3; have n4 : wA.cell? ⟨w.heap.size + 1 + 1, 4, none⟩ = some (.int .i64 0) := cell_row hx6 4
  have m0 := free_row hx6 0; have m1 := free_row hx6 1; have m2 := free_row hx6 2; have m3 := free_row hx6 3; have m4 := free_row hx6 4
  have HX6A := Lib.hid hx6
  have HBA := Lib.hid hboA
  have t6 : (E == E) = true := by simp
  have hu1 := Try.underlying31
  have hu2 := Try.underlying30
  have hi1 : (Try.prog.info? 31).map (·.size) = some cs.length := by rw [hcl]; exact size_sec
  have hi2 : (Try.prog.info? 30).map (·.size) = some cs.length := by rw [hcl]; exact size_arr
  have hne4 : w.heap.size ≠ w.heap.size + 1 + 1 := by omega
  have hne8 : p8 ≠ w.heap.size + 1 + 1 := by omega
  have hneA : pA ≠ w.heap.size + 1 + 1 := by omega
  clear hx4 hx6 hR9 hxA hx8A hboA hzs hza HX4 HX5 HX6
  refine wp_region_F (S := (R9S w.heap.size #[.slice A D.S.length c, .slice A2 D.Q.length c2, .bool D.dead, .int .i64 D.arm, .int .i64 D.deeds] p8 pA cs)) 10 (by kernel_rfl) (by exact HR9.out) (fun hHeld => ?_)
  refine take1F (i := 0) (v := ?_) (a' := ?_) (some 59) #[true, false, false, false, false, false, false, false, false, false, false] rfl rfl (by kernel_rfl) (fun _ _ _ h => h) (Or.inl ⟨by rfl, ?_⟩) hHeld ?_ ?_
  rotate_left
  · (intro w hSw; (try dsimp only at hSw); obtain ⟨⟨s1, s2, s3, s4, s5⟩, s6, s7⟩ := hSw; go_simp; (try with_reducible rfl))
  rotate_left
  · simp only [Act.put, List.setIfInBounds_toArray, List.set_cons_zero, List.set_cons_succ]
    rfl
  refine take1F (i := 1) (v := .agg cs.toArray) (a' := ?_) (some 60) #[true, true, false, false, false, false, false, false, false, false, false] rfl rfl (by kernel_rfl) (fun _ _ _ h => h) (yieldsIf_load_mid (by rfl) 31 (.tmp 11) rfl p8 0 rfl cs _ (fun w h => h.2.1) hu1 rfl hi1) hHeld ?_ ?_
  rotate_left
  · simp only [Act.put, List.setIfInBounds_toArray, List.set_cons_zero, List.set_cons_succ]
    rfl
  refine take1F (i := 2) (v := .agg cs.toArray) (a' := ?_) (some 61) #[true, true, true, false, false, false, false, false, false, false, false] rfl rfl (by kernel_rfl) (fun _ _ _ h => h) (yieldsIf_load_mid (by rfl) 30 (.tmp 13) rfl pA 0 rfl cs _ (fun w h => h.2.2) hu2 rfl hi2) hHeld ?_ ?_
  rotate_left
  · simp only [Act.put, List.setIfInBounds_toArray, List.set_cons_zero, List.set_cons_succ]
    rfl
  refine take1F (i := 3) (v := ?_) (a' := ?_) (some 62) #[true, true, true, true, false, false, false, false, false, false, false] rfl rfl (by kernel_rfl) (fun _ _ _ h => h) (Or.inl ⟨by rfl, ?_⟩) hHeld ?_ ?_
  rotate_left
  · (intro w hSw; (try dsimp only at hSw); obtain ⟨⟨s1, s2, s3, s4, s5⟩, s6, s7⟩ := hSw; go_simp; (try with_reducible rfl))
  rotate_left
  · simp only [Act.put, List.setIfInBounds_toArray, List.set_cons_zero, List.set_cons_succ]
    rfl
  refine take1F (i := 4) (v := ?_) (a' := ?_) (some 63) #[true, true, true, true, true, false, false, false, false, false, false] rfl rfl (by kernel_rfl) (fun _ _ _ h => h) (Or.inl ⟨by rfl, ?_⟩) hHeld ?_ ?_
  rotate_left
  · (intro w hSw; (try dsimp only at hSw); obtain ⟨⟨s1, s2, s3, s4, s5⟩, s6, s7⟩ := hSw; go_simp; (try with_reducible rfl))
  rotate_left
  · simp only [Act.put, List.setIfInBounds_toArray, List.set_cons_zero, List.set_cons_succ]
    rfl
  refine take1F (i := 5) (v := ?_) (a' := ?_) (some 64) #[true, true, true, true, true, true, false, false, false, false, false] rfl rfl (by kernel_rfl) (fun _ _ _ h => h) (Or.inl ⟨by rfl, ?_⟩) hHeld ?_ ?_
  rotate_left
  · (intro w hSw; (try dsimp only at hSw); obtain ⟨⟨s1, s2, s3, s4, s5⟩, s6, s7⟩ := hSw; go_simp; (try with_reducible rfl))
  rotate_left
  · simp only [Act.put, List.setIfInBounds_toArray, List.set_cons_zero, List.set_cons_succ]
    rfl
  refine take1F (i := 6) (v := ?_) (a' := ?_) (some 65) #[true, true, true, true, true, true, true, false, false, false, false] rfl rfl (by kernel_rfl) (fun _ _ _ h => h) (Or.inl ⟨by rfl, ?_⟩) hHeld ?_ ?_
  rotate_left
  · (intro w hSw; (try dsimp only at hSw); obtain ⟨⟨s1, s2, s3, s4, s5⟩, s6, s7⟩ := hSw; go_simp; (try with_reducible rfl))
  rotate_left
  · simp only [Act.put, List.setIfInBounds_toArray, List.set_cons_zero, List.set_cons_succ]
    rfl
  refine take1F (i := 7) (v := ?_) (a' := ?_) (some 66) #[true, true, true, true, true, true, true, true, false, false, false] rfl rfl (by kernel_rfl) (fun _ _ _ h => h) (Or.inl ⟨by rfl, ?_⟩) hHeld ?_ ?_
  rotate_left
  · (intro w hSw; (try dsimp only at hSw); obtain ⟨⟨s1, s2, s3, s4, s5⟩, s6, s7⟩ := hSw; go_simp; (try with_reducible rfl))
  rotate_left
  · simp only [Act.put, List.setIfInBounds_toArray, List.set_cons_zero, List.set_cons_succ]
    rfl
  refine take1F (i := 8) (v := ?_) (a' := ?_) (some 67) #[true, true, true, true, true, true, true, true, true, false, false] rfl rfl (by kernel_rfl) (fun _ _ _ h => h) (Or.inl ⟨by rfl, ?_⟩) hHeld ?_ ?_
  rotate_left
  · (intro w hSw; (try dsimp only at hSw); obtain ⟨⟨s1, s2, s3, s4, s5⟩, s6, s7⟩ := hSw; go_simp; (try with_reducible rfl))
  rotate_left
  · simp only [Act.put, List.setIfInBounds_toArray, List.set_cons_zero, List.set_cons_succ]
    rfl
  have HBd := Lib.hid (HBA.out.drew)
  have HX6d : Hid (wA.drew.heap[w.heap.size + 1 + 1]? = some (.cells #[.slice none 0 0, .slice none 0 0, .bool false, .int .i64 0, .int .i64 0] 43 (0, 0))) := Lib.hid HX6A.out
  clear HBA HX6A HR9 n0 n1 n2 n3 n4 m0 m1 m2 m3 m4 hsz9
  revert hHeld HBd HX6d
  generalize wA.drew = wd
  intro hHeld HBd HX6d
  have hx6 := HX6d.out
  have n0 : wd.cell? ⟨w.heap.size + 1 + 1, 0, none⟩ = some (.slice none 0 0) := cell_row hx6 0; have n1 : wd.cell? ⟨w.heap.size + 1 + 1, 1, none⟩ = some (.slice none 0 0) := cell_row hx6 1; have n2 : wd.cell? ⟨w.heap.size + 1 + 1, 2, none⟩ = some (.bool false) := cell_row hx6 2; have n3 : wd.cell? ⟨w.heap.size + 1 + 1, 3, none⟩ = some (.int .i64 0) := cell_row hx6 3; have n4 : wd.cell? ⟨w.heap.size + 1 + 1, 4, none⟩ = some (.int .i64 0) := cell_row hx6 4
  have m0 := free_row hx6 0; have m1 := free_row hx6 1; have m2 := free_row hx6 2; have m3 := free_row hx6 3; have m4 := free_row hx6 4
  clear hx6
  refine loud1F (i := 9) none #[true, true, true, true, true, true, true, true, true, true, false] rfl rfl (by kernel_rfl) (fun K hK => ?_)
  go_simp
  rw [← set5]
  refine hK.out _ _ (hHeld.set hne4 hne8 hneA) (fun hHeld' => ?_)
  clear hK K hHeld
  have hHeld := hHeld'
  clear hHeld'
  (try simp only [Act.put, List.setIfInBounds_toArray, List.set_cons_zero, List.set_cons_succ])
  refine last1F (some 7) #[true, true, true, true, true, true, true, true, true, true, true] rfl rfl (by kernel_rfl) (fun K hK => ?_)
  go_simp
  refine hK.out _ _ ?_
  clear hK K hHeld
  (try simp only [Act.put, List.setIfInBounds_toArray, List.set_cons_zero, List.set_cons_succ])
  refine wpAnyF_done (by kernel_rfl) ?_ _
  have h5 := set5_heap (a' := .slice A D.S.length c) (b' := .slice A2 D.Q.length c2) (c' := .bool D.dead) (d' := .int .i64 D.arm) (e' := .int .i64 D.deeds) HX6d.out
  clear n0 n1 n2 n3 n4 m0 m1 m2 m3 m4
  have hend := do_end (a := .slice A D.S.length c) (b := .slice A2 D.Q.length c2) (c := .bool D.dead) (d := .int .i64 D.arm) (e := .int .i64 D.deeds) (w := w) (w1 := w1) (g := w.heap.size + 1 + 1) (HD.out.below HB1.out) (HR.out.fx (w1 := w1) (bnext HB1.out HBd.out)) HBd.out (HB.out.trans (HB1.out.mono HB.out.size)) (by omega) (by omega) (Nat.le_refl _) HB.out.size (fun e => by have := HFl.out _ e; omega) (Keep.of_below HB1.out) (fun k hk => .inl hk)
  revert h5 hend
  generalize set5 wd (w.heap.size + 1 + 1) (.slice A D.S.length c) (.slice A2 D.Q.length c2) (.bool D.dead) (.int .i64 D.arm) (.int .i64 D.deeds) = wE
  intro h5 hend
  have H5 := Lib.hid h5
  have HEND := Lib.hid hend
  clear h5 hend
  go_wp2
  exact bodyPost_ret (results_cell2 Try.results19 rfl rfl (load_rdisk H5.out)) rfl ⟨vq, _, _, rfl, HEND.out⟩
def R20S (b4 : Nat) (v : Array Value) (w' : World) : Prop := w'.cell? ⟨b4, 0, none⟩ = some (v[0]!) ∧ w'.cell? ⟨b4, 1, none⟩ = some (v[1]!) ∧ w'.cell? ⟨b4, 2, none⟩ = some (v[2]!) ∧ w'.cell? ⟨b4, 3, none⟩ = some (v[3]!) ∧ w'.cell? ⟨b4, 4, none⟩ = some (v[4]!)
theorem R20S.move {b4 : Nat} {v : Array Value} {w w' : World} (h : R20S b4 v w) (hb : w'.heap[b4]? = w.heap[b4]?) : R20S b4 v w' := by
  have far : ∀ o, w'.cell? ⟨b4, o, none⟩ = w.cell? ⟨b4, o, none⟩ := fun o => World.cell?_of_block (a := ⟨b4, o, none⟩) hb
  exact ⟨(far _).trans h.1, (far _).trans h.2.1, (far _).trans h.2.2.1, (far _).trans h.2.2.2.1, (far _).trans h.2.2.2.2⟩
set_option maxRecDepth 100000 in
set_option maxHeartbeats 8000000 in
theorem ldo_look {X : Nat → Prop} {w0 w : World} {p gS m : Nat} {vq vS vQ : Value} {D : Dk} (h : DkAt w w0.heap.size p gS vq D) (hr : RefAt w (FtX X p gS vq) vS vQ D) (hX : ∀ k, X k → k < w.heap.size) (hlen : D.Q.length ≤ 1000) (hS : D.S.length ≤ 65536) (a : Ac) (hb : Below w0.heap.size w0 w) (hk : a.kind ≠ 0 ∧ a.kind ≠ 1 ∧ a.kind ≠ 2 ∧ a.kind ≠ 3 ∧ a.kind ≠ 4) :
    Calls Try.prog 19 #[.pointer (some ⟨p, 0, none⟩), rdV D vS vQ, .agg (acV a).toArray] w (DoTo X w0 w p gS vq D) := by
  obtain ⟨q0, q1, q2, q3, q4⟩ := hk
  have e0 : (a.kind == 0) = false := by simpa using q0
  have e1 : (a.kind == 1) = false := by simpa using q1
  have e2 : (a.kind == 2) = false := by simpa using q2
  have e3 : (a.kind == 3) = false := by simpa using q3
  have e4 : (a.kind == 4) = false := by simpa using q4
  clear q0 q1 q2 q3 q4
  have HR := Lib.hid hr
  obtain ⟨A, c, rfl, _⟩ := hr.secs
  obtain ⟨A2, c2, rfl, _⟩ := hr.que
  have HB := Lib.hid hb
  have HFl := Lib.hid (Ft.lt h)
  have HD := Lib.hid h
  unfold rdV acV
  obtain ⟨w1, hw1, hb1, hx4, hx5, hx6, hsz1⟩ := acts_boxes w (.slice A D.S.length c) (.slice A2 D.Q.length c2) (.bool D.dead) (.int .i64 D.arm) (.int .i64 D.deeds) (.int .i64 a.kind) (.int .i64 a.at_) a.vS (.slice a.A a.K.length a.c)
  have HX4 := Lib.hid hx4
  have HX6 := Lib.hid hx6
  have HB1 := Lib.hid hb1
  have HW1 := Lib.hid hw1
  have j0 : w1.cell? ⟨w.heap.size + 1, 0, none⟩ = some (.int .i64 a.kind) := cell_row hx5 0; have j1 : w1.cell? ⟨w.heap.size + 1, 1, none⟩ = some (.int .i64 a.at_) := cell_row hx5 1; have j2 : w1.cell? ⟨w.heap.size + 1, 2, none⟩ = some (a.vS) := cell_row hx5 2; have j3 : w1.cell? ⟨w.heap.size + 1, 3, none⟩ = some (.slice a.A a.K.length a.c) := cell_row hx5 3
  have HIS := fun W (hb : Below w.heap.size w W) => Lib.hid (lis_any (w := W) (HD.out.below hb) (HR.out.below hb) hlen hS)
  unfold rdV RetT at HIS
  clear h hr hb hw1 hb1 hx4 hx5 hx6
  go_enter Try.func19, Try.ntmps19
  go_upto_region 1 with fail
  rw [HW1.out]
  go_upto_region 20 with fail
  have HS0 : Hid (R20S w.heap.size #[.slice A D.S.length c, .slice A2 D.Q.length c2, .bool D.dead, .int .i64 D.arm, .int .i64 D.deeds] w1) := Lib.hid ⟨cell_row HX4.out 0, cell_row HX4.out 1, cell_row HX4.out 2, cell_row HX4.out 3, cell_row HX4.out 4⟩
  clear j0 j1 j2 j3 HW1 e0 e1 e2 e3 e4
  refine wp_region_F (S := (R20S w.heap.size #[.slice A D.S.length c, .slice A2 D.Q.length c2, .bool D.dead, .int .i64 D.arm, .int .i64 D.deeds])) 5 (by kernel_rfl) (by exact HS0.out) (fun hHeld => ?_)
  refine take1F (i := 0) (v := ?_) (a' := ?_) (some 101) #[true, false, false, false, false, false] rfl rfl (by kernel_rfl) (fun _ _ _ h => h) (Or.inl ⟨by rfl, ?_⟩) hHeld ?_ ?_
  rotate_left
  · (intro w hSw; (try dsimp only at hSw); obtain ⟨s1, s2, s3, s4, s5⟩ := hSw; go_simp; (try with_reducible rfl))
  rotate_left
  · simp only [Act.put, List.setIfInBounds_toArray, List.set_cons_zero, List.set_cons_succ]
    rfl
  refine take1F (i := 1) (v := ?_) (a' := ?_) (some 102) #[true, true, false, false, false, false] rfl rfl (by kernel_rfl) (fun _ _ _ h => h) (Or.inl ⟨by rfl, ?_⟩) hHeld ?_ ?_
  rotate_left
  · (intro w hSw; (try dsimp only at hSw); obtain ⟨s1, s2, s3, s4, s5⟩ := hSw; go_simp; (try with_reducible rfl))
  rotate_left
  · simp only [Act.put, List.setIfInBounds_toArray, List.set_cons_zero, List.set_cons_succ]
    rfl
  refine take1F (i := 2) (v := ?_) (a' := ?_) (some 103) #[true, true, true, false, false, false] rfl rfl (by kernel_rfl) (fun _ _ _ h => h) (Or.inl ⟨by rfl, ?_⟩) hHeld ?_ ?_
  rotate_left
  · (intro w hSw; (try dsimp only at hSw); obtain ⟨s1, s2, s3, s4, s5⟩ := hSw; go_simp; (try with_reducible rfl))
  rotate_left
  · simp only [Act.put, List.setIfInBounds_toArray, List.set_cons_zero, List.set_cons_succ]
    rfl
  have HBd := Lib.hid (HB1.out.drew)
  have HX6d : Hid (w1.drew.heap[w.heap.size + 1 + 1]? = some (.cells #[.slice none 0 0, .slice none 0 0, .bool false, .int .i64 0, .int .i64 0] 43 (0, 0))) := Lib.hid HX6.out
  have hszd : w1.drew.heap.size = w.heap.size + 3 := hsz1
  clear HX4 HX6 HS0
  revert hHeld HBd HX6d hszd
  generalize w1.drew = wd
  intro hHeld HBd HX6d hszd
  have HI := HIS wd HBd.out
  clear HIS
  refine loud1F (i := 3) (some 104) #[true, true, true, true, false, false] rfl rfl (by kernel_rfl) (fun K hK => ?_)
  go_simp
  go_at_call 20
  refine HI.out.mono ?_
  rintro e wI ⟨rfl, hbI⟩
  refine hK.out _ _ (hHeld.move (hbI.block _ (by omega))) (fun hHeld' => ?_)
  clear hK K hHeld
  have hHeld := hHeld'
  have hx6 := old_heap HX6d.out hbI
  have HX6I := Lib.hid hx6
  have HBI := Lib.hid (bnext HBd.out hbI)
  have hszI := hbI.size
  have n0 : wI.cell? ⟨w.heap.size + 1 + 1, 0, none⟩ = some (.slice none 0 0) := cell_row hx6 0; have n1 : wI.cell? ⟨w.heap.size + 1 + 1, 1, none⟩ = some (.slice none 0 0) := cell_row hx6 1; have n2 : wI.cell? ⟨w.heap.size + 1 + 1, 2, none⟩ = some (.bool false) := cell_row hx6 2; have n3 : wI.cell? ⟨w.heap.size + 1 + 1, 3, none⟩ = some (.int .i64 0) := cell_row hx6 3; have n4 : wI.cell? ⟨w.heap.size + 1 + 1, 4, none⟩ = some (.int .i64 0) := cell_row hx6 4
  have m0 := free_row hx6 0; have m1 := free_row hx6 1; have m2 := free_row hx6 2; have m3 := free_row hx6 3; have m4 := free_row hx6 4
  clear hHeld' hx6 hbI HBd HX6d
  (try simp only [Act.put, List.setIfInBounds_toArray, List.set_cons_zero, List.set_cons_succ])
  refine loud1F (i := 4) none #[true, true, true, true, true, false] rfl rfl (by kernel_rfl) (fun K hK => ?_)
  go_simp
  rw [← set5]
  refine hK.out _ _ (hHeld.move (set5_far (by omega))) (fun hHeld' => ?_)
  clear hK K hHeld
  have hHeld := hHeld'
  clear hHeld'
  (try simp only [Act.put, List.setIfInBounds_toArray, List.set_cons_zero, List.set_cons_succ])
  refine last1F (some 7) #[true, true, true, true, true, true] rfl rfl (by kernel_rfl) (fun K hK => ?_)
  go_simp
  refine hK.out _ _ ?_
  clear hK K hHeld
  (try simp only [Act.put, List.setIfInBounds_toArray, List.set_cons_zero, List.set_cons_succ])
  refine wpAnyF_done (by kernel_rfl) ?_ _
  have h5 := set5_heap (a' := .slice A D.S.length c) (b' := .slice A2 D.Q.length c2) (c' := .bool D.dead) (d' := .int .i64 D.arm) (e' := .int .i64 D.deeds) HX6I.out
  clear n0 n1 n2 n3 n4 m0 m1 m2 m3 m4
  have hend := do_end (a := .slice A D.S.length c) (b := .slice A2 D.Q.length c2) (c := .bool D.dead) (d := .int .i64 D.arm) (e := .int .i64 D.deeds) (w := w) (w1 := wI) (g := w.heap.size + 1 + 1) (HD.out.below HBI.out) (HR.out.fx (w1 := wI) HBI.out) (Below.refl _ wI) (HB.out.trans (HBI.out.mono HB.out.size)) (by omega) (by omega) (Nat.le_refl _) HB.out.size (fun e => by have := HFl.out _ e; omega) (Keep.of_below HBI.out) (fun k hk => .inl hk)
  revert h5 hend
  generalize set5 wI (w.heap.size + 1 + 1) (.slice A D.S.length c) (.slice A2 D.Q.length c2) (.bool D.dead) (.int .i64 D.arm) (.int .i64 D.deeds) = wE
  intro h5 hend
  have H5 := Lib.hid h5
  have HEND := Lib.hid hend
  clear h5 hend
  go_wp2
  exact bodyPost_ret (results_cell2 Try.results19 rfl rfl (load_rdisk H5.out)) rfl ⟨vq, _, _, rfl, HEND.out⟩
theorem ldo_any {X : Nat → Prop} {w0 w : World} {p gS m : Nat} {vq vS vQ : Value} {D : Dk} (h : DkAt w w0.heap.size p gS vq D) (hr : RefAt w (FtX X p gS vq) vS vQ D) (hX : ∀ k, X k → k < w.heap.size) (hm : m ≤ 900) (ho : DOk D m) (hS1 : 1 ≤ D.S.length) (hS : D.S.length ≤ 65536) (a : Ac) (ha : AcOk w0 a) (hb : Below w0.heap.size w0 w) :
    Calls Try.prog 19 #[.pointer (some ⟨p, 0, none⟩), rdV D vS vQ, .agg (acV a).toArray] w (DoTo X w0 w p gS vq (actD D a)) := by
  have hlen : D.Q.length ≤ 1000 := by have := ho.len; omega
  unfold actD
  by_cases h0 : a.kind = 0
  · rw [if_pos h0]; exact ldo_write h hr hX hm ho a ha hb h0
  · rw [if_neg h0]
    by_cases h2 : a.kind = 2
    · rw [if_pos h2]; exact ldo_flush h hr hX hm ho hS1 hS a ha hb h2
    · rw [if_neg h2]
      by_cases h3 : a.kind = 3
      · rw [if_pos h3]; exact ldo_arm (m := m) h hr hX a ha hb h3
      · rw [if_neg h3]
        by_cases h4 : a.kind = 4
        · rw [if_pos h4]; exact ldo_crash h hr hX hm ho hS1 hS a ha hb h4
        · rw [if_neg h4]
          by_cases h1 : a.kind = 1
          · exact ldo_read (m := m) h hr hX hlen a hb h1
          · exact ldo_look (m := m) h hr hX hlen hS a hb ⟨h0, h1, h2, h3, h4⟩
end Go.Proofs.Ytiehfaiadhhndaa
