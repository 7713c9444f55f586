/-
  Disk: Twin and Same.
-/
import Derived.Test.YtiehfaiadhhndaaTwA
namespace Go.Proofs.Ytiehfaiadhhndaa
open Go.RowKit
set_option linter.unusedVariables false
set_option linter.unusedSimpArgs false
set_option linter.unnecessarySimpa false
theorem arr_rows {α : Type} {w : World} {f : α → List Value} {k g T c : Nat} {L : List α} (hk : ∀ x, (f x).length = k) (h : ArrAt w g T f k L c) : RowsAt w (fun _ => False) f k (.slice (some ⟨g, 0, none⟩) L.length c) L :=
  own_rows hk (ArrAt.own (base := 0) hk h (Nat.zero_le _)) rfl (fun _ _ h => h)
def TwinTo (w : World) (D : Dk) (e : Ending) (w' : World) : Prop := ∃ p gS vq c, e = .returned (.pointer (some ⟨p, 0, none⟩)) ∧ DkAt w' w.heap.size p gS vq { D with cap := c } ∧ Below w.heap.size w w'
theorem s5_alloc {w : World} {p : Nat} {a b c d e : Value} (o : Obj) (h : w.cell? ⟨p, 0, none⟩ = some a ∧ w.cell? ⟨p, 1, none⟩ = some b ∧ w.cell? ⟨p, 2, none⟩ = some c ∧ w.cell? ⟨p, 3, none⟩ = some d ∧ w.cell? ⟨p, 4, none⟩ = some e) :
    (w.alloc o).cell? ⟨p, 0, none⟩ = some a ∧ (w.alloc o).cell? ⟨p, 1, none⟩ = some b ∧ (w.alloc o).cell? ⟨p, 2, none⟩ = some c ∧ (w.alloc o).cell? ⟨p, 3, none⟩ = some d ∧ (w.alloc o).cell? ⟨p, 4, none⟩ = some e := by
  have hb : Keep (fun _ => False) w (w.alloc o) := Keep.of_below ((Below.refl _ w).alloc (Nat.le_refl _) o)
  exact ⟨hb.cell h.1 (fun e => e), hb.cell h.2.1 (fun e => e), hb.cell h.2.2.1 (fun e => e), hb.cell h.2.2.2.1 (fun e => e), hb.cell h.2.2.2.2 (fun e => e)⟩
set_option maxRecDepth 100000 in
set_option maxHeartbeats 4000000 in
theorem dtwin_any {w : World} {base p gS : Nat} {vq : Value} {D : Dk} (h : DkAt w base p gS vq D) (hS1 : 1 ≤ D.S.length) (hS : D.S.length ≤ 65536) (hQ : D.Q.length ≤ 1000) : Calls Try.prog 23 #[.pointer (some ⟨p, 0, none⟩)] w (TwinTo w D) := by
  have HD := Lib.hid h
  obtain ⟨c0, c1, c2, c3, c4⟩ := h.cells
  obtain ⟨sq, cq, rfl⟩ := own_slice1 h.que
  have HS := fun W (hb : Below w.heap.size w W) => Lib.hid (clone_sec ((arr_rows scF_len h.secs).below scF_len hb) hS)
  have HQ := fun W (hb : Below w.heap.size w W) => Lib.hid (clone_wr ((own_rows (F := fun _ => False) wrF_len h.que rfl (fun _ _ h => h)).below wrF_len hb) (by omega))
  unfold CloneTo at HS HQ
  have hlt := h.lt.1
  clear h
  go_enter Try.func23, Try.ntmps23
  go_upto_region 1 with fail
  refine wp_region_held_drew (S := (fun w' => w'.cell? ⟨p, 0, none⟩ = some (.bool D.dead) ∧ w'.cell? ⟨p, 1, none⟩ = some (.int .i64 D.arm) ∧ w'.cell? ⟨p, 2, none⟩ = some (.slice (some ⟨gS, 0, none⟩) D.S.length D.cap) ∧ w'.cell? ⟨p, 3, none⟩ = some (.slice sq D.Q.length cq) ∧ w'.cell? ⟨p, 4, none⟩ = some (.int .i64 D.deeds))) (by kernel_rfl) (by exact ⟨c0, c1, c2, c3, c4⟩) (fun hHeld => ?_)
  refine take1_ (i := 0) (v := ?_) (a' := ?_) (some 3) #[true, false, false, false, false, false, false, false, false, false, false, false, false, false, false, false, false, false, false, false, false] rfl rfl (by kernel_rfl) (fun _ _ _ h => h) (Or.inl ⟨by rfl, ?_⟩) hHeld ?_ ?_
  rotate_left
  · (intro w hSw; (try dsimp only at hSw); obtain ⟨s1, s2, s3, s4, s5⟩ := hSw; go_simp; (try with_reducible rfl))
  rotate_left
  · simp only [Act.put, List.setIfInBounds_toArray, List.set_cons_zero, List.set_cons_succ]
    rfl
  refine take1_ (i := 1) (v := ?_) (a' := ?_) (some 4) #[true, true, false, false, false, false, false, false, false, false, false, false, false, false, false, false, false, false, false, false, false] rfl rfl (by kernel_rfl) (fun _ _ _ h => h) (Or.inl ⟨by rfl, ?_⟩) hHeld ?_ ?_
  rotate_left
  · (intro w hSw; (try dsimp only at hSw); obtain ⟨s1, s2, s3, s4, s5⟩ := hSw; go_simp; (try with_reducible rfl))
  rotate_left
  · simp only [Act.put, List.setIfInBounds_toArray, List.set_cons_zero, List.set_cons_succ]
    rfl
  refine take1_ (i := 2) (v := ?_) (a' := ?_) (some 5) #[true, true, true, false, false, false, false, false, false, false, false, false, false, false, false, false, false, false, false, false, false] rfl rfl (by kernel_rfl) (fun _ _ _ h => h) (Or.inl ⟨by rfl, ?_⟩) hHeld ?_ ?_
  rotate_left
  · (intro w hSw; (try dsimp only at hSw); obtain ⟨s1, s2, s3, s4, s5⟩ := hSw; go_simp; (try with_reducible rfl))
  rotate_left
  · simp only [Act.put, List.setIfInBounds_toArray, List.set_cons_zero, List.set_cons_succ]
    rfl
  refine take1_ (i := 3) (v := ?_) (a' := ?_) (some 6) #[true, true, true, true, false, false, false, false, false, false, false, false, false, false, false, false, false, false, false, false, false] rfl rfl (by kernel_rfl) (fun _ _ _ h => h) (Or.inl ⟨by rfl, ?_⟩) hHeld ?_ ?_
  rotate_left
  · (intro w hSw; (try dsimp only at hSw); obtain ⟨s1, s2, s3, s4, s5⟩ := hSw; go_simp; (try with_reducible rfl))
  rotate_left
  · simp only [Act.put, List.setIfInBounds_toArray, List.set_cons_zero, List.set_cons_succ]
    rfl
  refine take1_ (i := 4) (v := ?_) (a' := ?_) (some 7) #[true, true, true, true, true, false, false, false, false, false, false, false, false, false, false, false, false, false, false, false, false] rfl rfl (by kernel_rfl) (fun _ _ _ h => h) (Or.inl ⟨by rfl, ?_⟩) hHeld ?_ ?_
  rotate_left
  · (intro w hSw; (try dsimp only at hSw); obtain ⟨s1, s2, s3, s4, s5⟩ := hSw; go_simp; (try with_reducible rfl))
  rotate_left
  · simp only [Act.put, List.setIfInBounds_toArray, List.set_cons_zero, List.set_cons_succ]
    rfl
  refine take1_ (i := 5) (v := ?_) (a' := ?_) (some 8) #[true, true, true, true, true, true, false, false, false, false, false, false, false, false, false, false, false, false, false, false, false] rfl rfl (by kernel_rfl) (fun _ _ _ h => h) (Or.inl ⟨by rfl, ?_⟩) hHeld ?_ ?_
  rotate_left
  · (intro w hSw; (try dsimp only at hSw); obtain ⟨s1, s2, s3, s4, s5⟩ := hSw; go_simp; (try with_reducible rfl))
  rotate_left
  · simp only [Act.put, List.setIfInBounds_toArray, List.set_cons_zero, List.set_cons_succ]
    rfl
  refine take1_ (i := 6) (v := ?_) (a' := ?_) (some 9) #[true, true, true, true, true, true, true, false, false, false, false, false, false, false, false, false, false, false, false, false, false] rfl rfl (by kernel_rfl) (fun _ _ _ h => h) (Or.inl ⟨by rfl, ?_⟩) hHeld ?_ ?_
  rotate_left
  · (intro w hSw; (try dsimp only at hSw); obtain ⟨s1, s2, s3, s4, s5⟩ := hSw; go_simp; (try with_reducible rfl))
  rotate_left
  · simp only [Act.put, List.setIfInBounds_toArray, List.set_cons_zero, List.set_cons_succ]
    rfl
  refine take1_ (i := 7) (v := ?_) (a' := ?_) (some 10) #[true, true, true, true, true, true, true, true, false, false, false, false, false, false, false, false, false, false, false, false, false] rfl rfl (by kernel_rfl) (fun _ _ _ h => h) (Or.inl ⟨by rfl, ?_⟩) hHeld ?_ ?_
  rotate_left
  · (intro w hSw; (try dsimp only at hSw); obtain ⟨s1, s2, s3, s4, s5⟩ := hSw; go_simp; (try with_reducible rfl))
  rotate_left
  · simp only [Act.put, List.setIfInBounds_toArray, List.set_cons_zero, List.set_cons_succ]
    rfl
  refine take1_ (i := 9) (v := ?_) (a' := ?_) (some 12) #[true, true, true, true, true, true, true, true, false, true, false, false, false, false, false, false, false, false, false, false, false] rfl rfl (by kernel_rfl) (fun _ _ _ h => h) (Or.inl ⟨by rfl, ?_⟩) hHeld ?_ ?_
  rotate_left
  · (intro w hSw; (try dsimp only at hSw); obtain ⟨s1, s2, s3, s4, s5⟩ := hSw; go_simp; (try with_reducible rfl))
  rotate_left
  · simp only [Act.put, List.setIfInBounds_toArray, List.set_cons_zero, List.set_cons_succ]
    rfl
  refine take1_ (i := 10) (v := ?_) (a' := ?_) (some 13) #[true, true, true, true, true, true, true, true, false, true, true, false, false, false, false, false, false, false, false, false, false] rfl rfl (by kernel_rfl) (fun _ _ _ h => h) (Or.inl ⟨by rfl, ?_⟩) hHeld ?_ ?_
  rotate_left
  · (intro w hSw; (try dsimp only at hSw); obtain ⟨s1, s2, s3, s4, s5⟩ := hSw; go_simp; (try with_reducible rfl))
  rotate_left
  · simp only [Act.put, List.setIfInBounds_toArray, List.set_cons_zero, List.set_cons_succ]
    rfl
  refine take1_ (i := 11) (v := ?_) (a' := ?_) (some 14) #[true, true, true, true, true, true, true, true, false, true, true, true, false, false, false, false, false, false, false, false, false] rfl rfl (by kernel_rfl) (fun _ _ _ h => h) (Or.inl ⟨by rfl, ?_⟩) hHeld ?_ ?_
  rotate_left
  · (intro w hSw; (try dsimp only at hSw); obtain ⟨s1, s2, s3, s4, s5⟩ := hSw; go_simp; (try with_reducible rfl))
  rotate_left
  · simp only [Act.put, List.setIfInBounds_toArray, List.set_cons_zero, List.set_cons_succ]
    rfl
  refine take1_ (i := 12) (v := ?_) (a' := ?_) (some 15) #[true, true, true, true, true, true, true, true, false, true, true, true, true, false, false, false, false, false, false, false, false] rfl rfl (by kernel_rfl) (fun _ _ _ h => h) (Or.inl ⟨by rfl, ?_⟩) hHeld ?_ ?_
  rotate_left
  · (intro w hSw; (try dsimp only at hSw); obtain ⟨s1, s2, s3, s4, s5⟩ := hSw; go_simp; (try with_reducible rfl))
  rotate_left
  · simp only [Act.put, List.setIfInBounds_toArray, List.set_cons_zero, List.set_cons_succ]
    rfl
  refine take1_ (i := 14) (v := ?_) (a' := ?_) (some 17) #[true, true, true, true, true, true, true, true, false, true, true, true, true, false, true, false, false, false, false, false, false] rfl rfl (by kernel_rfl) (fun _ _ _ h => h) (Or.inl ⟨by rfl, ?_⟩) hHeld ?_ ?_
  rotate_left
  · (intro w hSw; (try dsimp only at hSw); obtain ⟨s1, s2, s3, s4, s5⟩ := hSw; go_simp; (try with_reducible rfl))
  rotate_left
  · simp only [Act.put, List.setIfInBounds_toArray, List.set_cons_zero, List.set_cons_succ]
    rfl
  refine take1_ (i := 15) (v := ?_) (a' := ?_) (some 18) #[true, true, true, true, true, true, true, true, false, true, true, true, true, false, true, true, false, false, false, false, false] rfl rfl (by kernel_rfl) (fun _ _ _ h => h) (Or.inl ⟨by rfl, ?_⟩) hHeld ?_ ?_
  rotate_left
  · (intro w hSw; (try dsimp only at hSw); obtain ⟨s1, s2, s3, s4, s5⟩ := hSw; go_simp; (try with_reducible rfl))
  rotate_left
  · simp only [Act.put, List.setIfInBounds_toArray, List.set_cons_zero, List.set_cons_succ]
    rfl
  refine take1_ (i := 16) (v := ?_) (a' := ?_) (some 19) #[true, true, true, true, true, true, true, true, false, true, true, true, true, false, true, true, true, false, false, false, false] rfl rfl (by kernel_rfl) (fun _ _ _ h => h) (Or.inl ⟨by rfl, ?_⟩) hHeld ?_ ?_
  rotate_left
  · (intro w hSw; (try dsimp only at hSw); obtain ⟨s1, s2, s3, s4, s5⟩ := hSw; go_simp; (try with_reducible rfl))
  rotate_left
  · simp only [Act.put, List.setIfInBounds_toArray, List.set_cons_zero, List.set_cons_succ]
    rfl
  refine take1_ (i := 17) (v := ?_) (a' := ?_) (some 20) #[true, true, true, true, true, true, true, true, false, true, true, true, true, false, true, true, true, true, false, false, false] rfl rfl (by kernel_rfl) (fun _ _ _ h => h) (Or.inl ⟨by rfl, ?_⟩) hHeld ?_ ?_
  rotate_left
  · (intro w hSw; (try dsimp only at hSw); obtain ⟨s1, s2, s3, s4, s5⟩ := hSw; go_simp; (try with_reducible rfl))
  rotate_left
  · simp only [Act.put, List.setIfInBounds_toArray, List.set_cons_zero, List.set_cons_succ]
    rfl
  refine loud1_ (i := 8) (some 11) #[true, true, true, true, true, true, true, true, true, true, true, true, true, false, true, true, true, true, false, false, false] rfl rfl (by kernel_rfl) (fun K hK => ?_)
  go_simp
  (go_at_call 35; refine (HS _ ((Below.refl _ w).drew)).out.mono ?_; rintro e w1 ⟨v1, rfl, ho1, hb1⟩; obtain ⟨gS', cS', rfl, har, hbg⟩ := own_arr ho1 rfl hS1; have HA1 := Lib.hid har; have HB1 := Lib.hid (bdrewL hb1); have hd1 := HD.out.below HB1.out; have k1 := hd1.cells; clear hb1 har hd1)
  refine hK.out _ _ (by (first | exact k2 | exact k1 | exact hHeld | exact s5_alloc _ hHeld)) (fun hHeld' => ?_)
  clear hK K hHeld
  have hHeld := hHeld'
  clear hHeld'
  try simp only [Act.put, List.setIfInBounds_toArray, List.set_cons_zero, List.set_cons_succ]
  refine loud1_ (i := 13) (some 16) #[true, true, true, true, true, true, true, true, true, true, true, true, true, true, true, true, true, true, false, false, false] rfl rfl (by kernel_rfl) (fun K hK => ?_)
  go_simp
  (have HQ1 := HQ w1 HB1.out; go_at_call 36; refine HQ1.out.mono ?_; rintro e w2 ⟨v2, rfl, ho2, hb2⟩; obtain ⟨s2, c2', rfl⟩ := own_slice1 ho2; have HO2 := Lib.hid ho2; have HB2 := Lib.hid hb2; have HB12 := Lib.hid hb2; have hd2 := HD.out.below (bnext HB1.out hb2); have k2 := hd2.cells; clear hb2 ho2 hd2 HQ1)
  refine hK.out _ _ (by (first | exact k2 | exact k1 | exact hHeld | exact s5_alloc _ hHeld)) (fun hHeld' => ?_)
  clear hK K hHeld
  have hHeld := hHeld'
  clear hHeld'
  try simp only [Act.put, List.setIfInBounds_toArray, List.set_cons_zero, List.set_cons_succ]
  refine take1_ (i := 18) (v := ?_) (a' := ?_) (some 21) #[true, true, true, true, true, true, true, true, true, true, true, true, true, true, true, true, true, true, true, false, false] rfl rfl (by kernel_rfl) (fun _ _ _ h => h) (Or.inl ⟨by rfl, ?_⟩) hHeld ?_ ?_
  rotate_left
  · (intro w hSw; (try dsimp only at hSw); obtain ⟨s1, s2, s3, s4, s5⟩ := hSw; go_simp; (try with_reducible rfl))
  rotate_left
  · simp only [Act.put, List.setIfInBounds_toArray, List.set_cons_zero, List.set_cons_succ]
    rfl
  refine loud1_ (i := 19) (some 22) #[true, true, true, true, true, true, true, true, true, true, true, true, true, true, true, true, true, true, true, true, false] rfl rfl (by kernel_rfl) (fun K hK => ?_)
  go_simp
  skip
  refine hK.out _ _ (by (first | exact k2 | exact k1 | exact hHeld | exact s5_alloc _ hHeld)) (fun hHeld' => ?_)
  clear hK K hHeld
  have hHeld := hHeld'
  clear hHeld'
  try simp only [Act.put, List.setIfInBounds_toArray, List.set_cons_zero, List.set_cons_succ]
  refine loud1_ (i := 20) (some 2) #[true, true, true, true, true, true, true, true, true, true, true, true, true, true, true, true, true, true, true, true, true] rfl rfl (by kernel_rfl) (fun K hK => ?_)
  go_simp
  skip
  refine hK.out _ _ (by (first | exact k2 | exact k1 | exact hHeld | exact s5_alloc _ hHeld)) (fun hHeld' => ?_)
  clear hK K hHeld
  have hHeld := hHeld'
  clear hHeld'
  try simp only [Act.put, List.setIfInBounds_toArray, List.set_cons_zero, List.set_cons_succ]
  refine wpAnyH_done (by kernel_rfl) ?_ _
  have hba : Below w2.heap.size w2 (w2.alloc (.cells #[.bool D.dead, .int .i64 D.arm, .slice (some ⟨gS', 0, none⟩) D.S.length cS', .slice s2 D.Q.length c2', .int .i64 D.deeds] 69)) := (Below.refl _ w2).alloc (Nat.le_refl _) _
  have hsz1 := HB1.out.size
  have hsz2 := HB12.out.size
  have hg1 := RawAt.lt HA1.out
  have hd : DkAt (w2.alloc (.cells #[.bool D.dead, .int .i64 D.arm, .slice (some ⟨gS', 0, none⟩) D.S.length cS', .slice s2 D.Q.length c2', .int .i64 D.deeds] 69)) w.heap.size w2.heap.size gS' (.slice s2 D.Q.length c2') { D with cap := cS' } := by
    refine ⟨new_heap w2 _, RawAt.below (RawAt.below HA1.out HB12.out) hba, own_low (own_below HO2.out hba) (by omega), by omega, hbg, by omega, fun k hk => ?_⟩
    have := HO2.out.lt k hk
    omega
  have HEND := Lib.hid hd
  have HBE := Lib.hid (bnext (bnext HB1.out HB12.out) hba)
  clear hba hd hHeld
  go_wp2
  go_ret
  exact ⟨_, _, _, _, rfl, HEND.out, HBE.out⟩
theorem equal_st (W : World) (a c : Bool) (b d : Int) : (Op.equalIn 10000 66 (.agg #[.bool a, .int .i64 b]) (.agg #[.bool c, .int .i64 d])).run Try.prog W = .ok (decide (a = c ∧ b = d)) W := by
  have hu := Try.underlying66
  have hf : Try.prog.underlying 66 = some (.struct (Try.prog.fieldsOf 66)) := by unfold Program.fieldsOf; rw [hu]
  rw [run_equalIn_struct W 9999 _ _ _ hf (by kernel_rfl)]
  unfold Program.fieldsOf
  rw [hu]
  simp only [Op.eqFields]
  go_simp
  by_cases h1 : a = c <;> by_cases h2 : b = d <;> simp [h1, h2]
def sameD (D E : Dk) : Bool := decide (D.dead = E.dead ∧ D.arm = E.arm) && decide (D.S = E.S) && decide (D.Q = E.Q)
set_option maxRecDepth 100000 in
set_option maxHeartbeats 8000000 in
theorem dsame_any {w : World} {base base' p gS p' gS' : Nat} {vq vq' : Value} {D E : Dk} (h : DkAt w base p gS vq D) (h' : DkAt w base' p' gS' vq' E) (hS : D.S.length ≤ 65536) (hQ : D.Q.length ≤ 1000) : Calls Try.prog 24 #[.pointer (some ⟨p, 0, none⟩), .pointer (some ⟨p', 0, none⟩)] w fun e w' => e = .returned (.bool (sameD D E)) ∧ ∃ n, w' = w.drewN n := by
  obtain ⟨c0, c1, c2, c3, c4⟩ := h.cells
  obtain ⟨d0, d1, d2, d3, d4⟩ := h'.cells
  obtain ⟨sq, cq, rfl⟩ := own_slice1 h.que
  obtain ⟨sq', cq', rfl⟩ := own_slice1 h'.que
  have HS := fun n => Lib.hid (equal_secs (w := w.drewN n) ((arr_rows scF_len h.secs).keep scF_len ((Keep.refl _ _).drewN n)) ((arr_rows scF_len h'.secs).keep scF_len ((Keep.refl _ _).drewN n)) hS)
  have HQ := fun n => Lib.hid (equal_wrs (w := w.drewN n) ((own_rows (F := fun _ => False) wrF_len h.que rfl (fun _ _ h => h)).keep wrF_len ((Keep.refl _ _).drewN n)) ((own_rows (F := fun _ => False) wrF_len h'.que rfl (fun _ _ h => h)).keep wrF_len ((Keep.refl _ _).drewN n)) (by omega))
  unfold EqTo at HS HQ
  have hst := fun W => equal_st W D.dead E.dead D.arm E.arm
  obtain ⟨b1, hb1⟩ : ∃ b : Bool, decide (D.dead = E.dead ∧ D.arm = E.arm) = b := ⟨_, rfl⟩
  obtain ⟨b2, hb2⟩ : ∃ b : Bool, decide (D.S = E.S) = b := ⟨_, rfl⟩
  obtain ⟨b3, hb3⟩ : ∃ b : Bool, decide (D.Q = E.Q) = b := ⟨_, rfl⟩
  have hsd : sameD D E = (b1 && b2 && b3) := by unfold sameD; rw [hb1, hb2, hb3]
  rw [hsd]
  rw [hb1] at hst
  simp only [hb2] at HS
  simp only [hb3] at HQ
  clear h h' hsd hb1 hb2 hb3 c4 d4
  cases b1 <;> cases b2
  all_goals
    go_enter Try.func24, Try.ntmps24
    go_upto_region 1 with fail
    go_quiet ((first
      | (go_at_call 37; exact Calls.quiet_of (HS _).out)
      | (go_at_call 38; exact Calls.quiet_of (HQ _).out)))
    rename_i nq
    go_wp2
    go_ret
    exact ⟨rfl, nq, rfl⟩
end Go.Proofs.Ytiehfaiadhhndaa
