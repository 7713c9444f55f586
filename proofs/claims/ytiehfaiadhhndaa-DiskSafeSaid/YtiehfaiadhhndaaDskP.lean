/-
  Disk: the reference in memory; may, deed.
-/
import Derived.Test.YtiehfaiadhhndaaDskI
namespace Go.Proofs.Ytiehfaiadhhndaa
open Go.RowKit
set_option linter.unusedVariables false
set_option linter.unusedSimpArgs false
set_option linter.unnecessarySimpa false
/-- A slice of rows whose block is old and not one of F. -/
def RowsAt {α : Type} (w : World) (F : Nat → Prop) (f : α → List Value) (k : Nat) (v : Value) (L : List α) : Prop :=
  ∃ A c, v = .slice A L.length c ∧ L.length ≤ c ∧ c ≤ maxLen ∧ (A = none → c = 0) ∧ ReadAt w A f k L ∧ ∀ a, A = some a → a.block < w.heap.size ∧ ¬ F a.block
def rdV (D : Dk) (vS vQ : Value) : Value := .agg #[vS, vQ, .bool D.dead, .int .i64 D.arm, .int .i64 D.deeds]
structure RefAt (w : World) (F : Nat → Prop) (vS vQ : Value) (D : Dk) : Prop where
  secs : RowsAt w F scF 128 vS D.S
  que : RowsAt w F wrF 129 vQ D.Q
section
variable {α : Type} {w w' : World} {F G : Nat → Prop} {f : α → List Value} {k : Nat} {v : Value} {L : List α}
theorem RowsAt.keep (hk : ∀ x, (f x).length = k) (h : RowsAt w F f k v L) (hw : Keep F w w') : RowsAt w' F f k v L := by
  obtain ⟨A, c, h1, h2, h3, h0, h4, h5⟩ := h
  refine ⟨A, c, h1, h2, h3, h0, fun hne => ?_, fun a ha => ⟨Nat.lt_of_lt_of_le (h5 a ha).1 hw.size, (h5 a ha).2⟩⟩
  obtain ⟨b, o, e1, e2⟩ := h4 hne
  refine ⟨b, o, e1, fun i x hx j hj => ?_⟩
  have hc := e2 i x hx j hj
  rw [List.getElem?_eq_getElem (by rw [hk]; exact hj)] at hc ⊢
  exact hw.cell hc (h5 _ e1).2
theorem RowsAt.below (hk : ∀ x, (f x).length = k) (h : RowsAt w F f k v L) (hb : Below w.heap.size w w') : RowsAt w' F f k v L :=
  h.keep hk (Keep.mono (Keep.of_below (F := fun _ => False) hb) (fun _ e => e.elim))
theorem RowsAt.foot (h : RowsAt w F f k v L) (hG : ∀ b, b < w.heap.size → G b → F b) : RowsAt w G f k v L := by
  obtain ⟨A, c, h1, h2, h3, h0, h4, h5⟩ := h
  exact ⟨A, c, h1, h2, h3, h0, h4, fun a ha => ⟨(h5 a ha).1, fun g => (h5 a ha).2 (hG _ (h5 a ha).1 g)⟩⟩
end
theorem RefAt.keep {w w' : World} {F : Nat → Prop} {vS vQ : Value} {D : Dk} (h : RefAt w F vS vQ D) (hw : Keep F w w') : RefAt w' F vS vQ D := ⟨h.secs.keep scF_len hw, h.que.keep wrF_len hw⟩
theorem RefAt.below {w w' : World} {F : Nat → Prop} {vS vQ : Value} {D : Dk} (h : RefAt w F vS vQ D) (hb : Below w.heap.size w w') : RefAt w' F vS vQ D := ⟨h.secs.below scF_len hb, h.que.below wrF_len hb⟩
theorem RefAt.foot {w : World} {F G : Nat → Prop} {vS vQ : Value} {D : Dk} (h : RefAt w F vS vQ D) (hG : ∀ b, b < w.heap.size → G b → F b) : RefAt w G vS vQ D := ⟨h.secs.foot hG, h.que.foot hG⟩
set_option maxHeartbeats 2000000 in
theorem rmay3_any {w : World} {F : Nat → Prop} {vS vQ : Value} {D : Dk} (at_ : Int) (h : RefAt w F vS vQ D) :
    Calls Try.prog 40 #[rdV D vS vQ, .int .i64 at_] w fun e w' => e = .returned (.int .i64 (mayE D at_)) ∧ Below w.heap.size w w' := by
  obtain ⟨A, c, rfl, _⟩ := h.secs
  obtain ⟨A2, c2, rfl, _⟩ := h.que
  clear h
  have hb := (Below.refl w.heap.size w).alloc (Nat.le_refl _) (.cells #[.slice A D.S.length c, .slice A2 D.Q.length c2, .bool D.dead, .int .i64 D.arm, .int .i64 D.deeds] 43)
  unfold rdV
  have HE : Hid (mayE D at_ = if at_ < 0 ∨ (D.S.length : Int) ≤ at_ then 1 else if D.dead then 20 else 0) := Lib.hid rfl
  generalize mayE D at_ = E at *
  by_cases h0 : at_ < 0
  · have hE := HE.out
    rw [if_pos (.inl h0)] at hE
    subst hE
    clear HE
    go_enter Try.func40, Try.ntmps40
    go_wp2
    go_ret
    exact ⟨rfl, hb⟩
  · by_cases h1 : (D.S.length : Int) ≤ at_
    · have hE := HE.out
      rw [if_pos (.inr h1)] at hE
      subst hE
      clear HE
      go_enter Try.func40, Try.ntmps40
      go_wp2
      go_ret
      exact ⟨rfl, hb⟩
    · have hE := HE.out
      rw [if_neg (by omega)] at hE
      clear HE
      cases hd : D.dead with
      | true =>
        rw [hd] at hE hb
        rw [if_pos rfl] at hE
        subst hE
        go_enter Try.func40, Try.ntmps40
        go_wp2
        go_ret
        exact ⟨rfl, hb⟩
      | false =>
        rw [hd] at hE hb
        rw [if_neg (by simp)] at hE
        subst hE
        go_enter Try.func40, Try.ntmps40
        go_wp2
        go_ret
        exact ⟨rfl, hb⟩
def RefTo (w : World) (vS vQ : Value) (D : Dk) (n : Int) (e : Ending) (w' : World) : Prop := e = .returned (.tuple #[rdV D vS vQ, .int .i64 n]) ∧ Below w.heap.size w w'
set_option maxHeartbeats 4000000 in
theorem rdeed3_any {w : World} {F : Nat → Prop} {vS vQ : Value} {D : Dk} (h : RefAt w F vS vQ D) (h1 : -1 ≤ D.arm ∧ D.arm ≤ 9223372036854775807) (h2 : 0 ≤ D.deeds ∧ D.deeds ≤ 1000000) :
    Calls Try.prog 41 #[rdV D vS vQ] w (RefTo w vS vQ (deedD D).1 (deedD D).2) := by
  obtain ⟨A, c, rfl, _⟩ := h.secs
  obtain ⟨A2, c2, rfl, _⟩ := h.que
  clear h
  have hwd : wrap64 (D.deeds + 1) = D.deeds + 1 := by rw [← i64_w]; exact IntWalk.i64_in _ (by omega)
  unfold rdV RefTo
  by_cases ha : D.arm = 0
  · have hA : deedD D = ({ D with dead := true }, 20) := by unfold deedD; rw [if_pos ha]
    rw [hA]
    unfold rdV
    dsimp only
    rw [ha]
    go_enter Try.func41, Try.ntmps41
    go_wp2
    exact bodyPost_ret (v := .tuple #[.agg #[.slice A D.S.length c, .slice A2 D.Q.length c2, .bool true, .int .i64 0, .int .i64 D.deeds], .int .i64 20]) (by simp [results, Try.results41, go_sem]) rfl ⟨rfl, ((Below.refl _ w).alloc (Nat.le_refl _) _).alloc (by simp) _⟩
  · have hab : (D.arm == 0) = false := by simpa using ha
    by_cases hp : 0 < D.arm
    · have hA : deedD D = ({ D with arm := D.arm - 1, deeds := D.deeds + 1 }, 0) := by unfold deedD; rw [if_neg ha, if_pos hp]
      rw [hA]
      unfold rdV
      dsimp only
      have hwa : wrap64 (D.arm - 1) = D.arm - 1 := by rw [← i64_w]; exact IntWalk.i64_in _ (by omega)
      go_enter Try.func41, Try.ntmps41
      go_wp2
      exact bodyPost_ret (v := .tuple #[.agg #[.slice A D.S.length c, .slice A2 D.Q.length c2, .bool D.dead, .int .i64 (D.arm - 1), .int .i64 (D.deeds + 1)], .int .i64 0]) (by simp [results, Try.results41, go_sem]) rfl ⟨rfl, ((Below.refl _ w).alloc (Nat.le_refl _) _).alloc (by simp) _⟩
    · have hA : deedD D = ({ D with deeds := D.deeds + 1 }, 0) := by unfold deedD; rw [if_neg ha, if_neg hp]
      rw [hA]
      unfold rdV
      dsimp only
      go_enter Try.func41, Try.ntmps41
      go_wp2
      exact bodyPost_ret (v := .tuple #[.agg #[.slice A D.S.length c, .slice A2 D.Q.length c2, .bool D.dead, .int .i64 D.arm, .int .i64 (D.deeds + 1)], .int .i64 0]) (by simp [results, Try.results41, go_sem]) rfl ⟨rfl, ((Below.refl _ w).alloc (Nat.le_refl _) _).alloc (by simp) _⟩
set_option maxHeartbeats 4000000 in
theorem rarm3_any {w : World} {F : Nat → Prop} {vS vQ : Value} {D : Dk} (n : Int) (h : RefAt w F vS vQ D) :
    Calls Try.prog 33 #[rdV D vS vQ, .int .i64 n] w fun e w' => e = .returned (rdV (armD D n) vS vQ) ∧ Below w.heap.size w w' := by
  obtain ⟨A, c, rfl, _⟩ := h.secs
  obtain ⟨A2, c2, rfl, _⟩ := h.que
  clear h
  unfold rdV
  cases hd : D.dead with
  | true =>
    have hA : armD D n = D := by unfold armD; rw [if_pos hd]
    rw [hA, hd]
    go_enter Try.func33, Try.ntmps33
    go_wp2
    exact bodyPost_ret (v := .agg #[.slice A D.S.length c, .slice A2 D.Q.length c2, .bool true, .int .i64 D.arm, .int .i64 D.deeds]) (by simp [results, Try.results33, go_sem]) rfl ⟨rfl, ((Below.refl _ w).alloc (Nat.le_refl _) _).alloc (by simp) _⟩
  | false =>
    by_cases hn : n < 0
    · have hA : armD D n = { D with arm := -1 } := by
        unfold armD
        rw [if_neg (by simp [hd])]
        have : mxI n (-1) = -1 := by unfold mxI; split <;> omega
        rw [this]
      rw [hA]
      dsimp only
      rw [hd]
      go_enter Try.func33, Try.ntmps33
      go_wp2
      exact bodyPost_ret (v := .agg #[.slice A D.S.length c, .slice A2 D.Q.length c2, .bool false, .int .i64 (-1), .int .i64 D.deeds]) (by simp [results, Try.results33, go_sem]) rfl ⟨rfl, ((Below.refl _ w).alloc (Nat.le_refl _) _).alloc (by simp) _⟩
    · have hA : armD D n = { D with arm := n } := by
        unfold armD
        rw [if_neg (by simp [hd])]
        have : mxI n (-1) = n := by unfold mxI; split <;> omega
        rw [this]
      rw [hA]
      dsimp only
      rw [hd]
      go_enter Try.func33, Try.ntmps33
      go_wp2
      exact bodyPost_ret (v := .agg #[.slice A D.S.length c, .slice A2 D.Q.length c2, .bool false, .int .i64 n, .int .i64 D.deeds]) (by simp [results, Try.results33, go_sem]) rfl ⟨rfl, ((Below.refl _ w).alloc (Nat.le_refl _) _).alloc (by simp) _⟩
end Go.Proofs.Ytiehfaiadhhndaa
