/-
  Disk: New, Size, Dead, Deeds, Arm, deed.
-/
import Derived.Test.YtiehfaiadhhndaaDskC
namespace Go.Proofs.Ytiehfaiadhhndaa
open Go.RowKit
attribute [local go_sem] maxI_two minI_two
set_option linter.unusedVariables false
set_option linter.unusedSimpArgs false
theorem head_set {w : World} {g : Nat} {t : TypeId} {cs : Array Value} (h : w.heap[g]? = some (.cells cs t (0, 0))) (i : Nat) (u : Value) : (w.setCell ⟨g, i, none⟩ u).heap[g]? = some (.cells (cs.setIfInBounds i u) t (0, 0)) := by
  simp [World.setCell, Array.getElem?_modify, h]
section
variable {w w' : World} {base p gS : Nat} {vq : Value} {D : Dk}
theorem DkAt.set (h : DkAt w base p gS vq D) (i : Nat) (v : Value) (D2 : Dk) (vq2 : Value)
    (hc : (#[.bool D.dead, .int .i64 D.arm, .slice (some ⟨gS, 0, none⟩) D.S.length D.cap, vq, .int .i64 D.deeds] : Array Value).setIfInBounds i v = #[.bool D2.dead, .int .i64 D2.arm, .slice (some ⟨gS, 0, none⟩) D2.S.length D2.cap, vq2, .int .i64 D2.deeds])
    (hS : D2.S = D.S) (hq : (vq2 = vq ∧ D2.Q = D.Q) ∨ (vq2 = .slice none 0 0 ∧ D2.Q = [])) (hcap : D2.cap = D.cap := by rfl) : DkAt (w.setCell ⟨p, i, none⟩ v) base p gS vq2 D2 := by
  have hk : Keep (· = p) w (w.setCell ⟨p, i, none⟩ v) := (Keep.refl _ w).setCell p i v rfl
  refine ⟨by rw [← hc]; exact head_set h.head i v, by rw [hS, hcap]; exact RawAt.keep h.secs hk (fun e => h.pS e.symm), ?_, h.bp, h.bS, h.pS, ?_⟩
  · rcases hq with ⟨rfl, e⟩ | ⟨rfl, e⟩
    · rw [e]
      rcases h.que with ⟨h1, h2 | ⟨g, cap, cur, e1, e2, e3, e4⟩⟩
      · exact ⟨h1, .inl h2⟩
      · exact ⟨h1, .inr ⟨g, cap, cur, e1, e2, hk.heap e3 (h.qp g (by rw [e1]; rfl)).1, e4⟩⟩
    · rw [e]; exact World.ownsRow_nil _ _ _ _
  · rcases hq with ⟨rfl, e⟩ | ⟨rfl, e⟩
    · exact h.qp
    · intro k hk; simp [Value.ownBlock] at hk
theorem DkAt.keepP (h : DkAt w base p gS vq D) (hk : Keep (fun _ => False) w w') : DkAt w' base p gS vq D := h.keep hk (fun h => h) (fun h => h) (fun _ _ h => h)
end
/-! ### New -/
def dk0 (n : Nat) : Dk := ⟨List.replicate n sc0, [], false, -1, 0, n⟩
def DNewTo (w : World) (n : Nat) (e : Ending) (w' : World) : Prop := ∃ p gS, e = .returned (.tuple #[.pointer (some ⟨p, 0, none⟩), .int .i64 0]) ∧ DkAt w' w.heap.size p gS (.slice none 0 0) (dk0 n) ∧ Below w.heap.size w w'
theorem info_sec3 : (Try.prog.info? 31).map (fun i => (i.zero, i.size, i.bytes)) = some (some (.agg zArr), 128, 128) := by kernel_rfl
theorem built_state (w : World) : Try.prog.built 66 [(1, .int .i64 (-1))] = some #[.bool false, .int .i64 (-1)] := by kernel_rfl
set_option maxHeartbeats 4000000 in
theorem dnew_no (n : Int) (w : World) (h : n < 1 ∨ 65536 < n) : Calls Try.prog 9 #[.int .i64 n] w fun e w' => e = .returned (.tuple #[.pointer none, .int .i64 1]) ∧ w = w' := by
  rcases h with h | h
  · go_enter Try.func9, Try.ntmps9
    go_wp2
    go_ret2
    exact ⟨rfl, rfl⟩
  · have h2 : ¬ n < 1 := by omega
    go_enter Try.func9, Try.ntmps9
    go_wp2
    go_ret2
    exact ⟨rfl, rfl⟩
set_option maxHeartbeats 4000000 in
theorem dnew_yes (n : Nat) (w : World) (h1 : 1 ≤ n) (h2 : n ≤ 65536) : Calls Try.prog 9 #[.int .i64 (n : Int)] w (DNewTo w n) := by
  have hn1 : ¬ ((n : Int) < 1) := by omega
  have hn2 : ¬ (65536 < (n : Int)) := by omega
  have hz := zero_sec
  go_enter Try.func9, Try.ntmps9
  go_wp2_with (first
    | (refine wpList_make_rd _ rfl _ _ 54 rfl w.heap.size 31 (.agg zArr) 128 128 Try.underlying54 info_sec3 (n : Int) (n : Int) n rfl rfl rfl rfl (by omega) (by unfold maxLen; omega) (Nat.le_refl _) ?_; intro w1 how hb1))
  go_ret2
  have hm : (madeCells (Value.agg zArr).cells (n * 128)).toList = rowsOf scF (List.replicate n sc0) := made_rows scF scF_len sc0 zArr n rfl
  rw [hm] at how
  obtain ⟨hA, _⟩ := ArrAt.of_own how (by simp)
  have hgS : w.heap.size < w1.heap.size := RawAt.lt hA
  have hb2 := (Below.refl w1.heap.size w1).alloc (Nat.le_refl _) (.cells #[.bool false, .int .i64 (-1), .slice (some ⟨w.heap.size, 0, none⟩) n n, .slice none 0 0, .int .i64 0] 69 (0, 0))
  refine ⟨w1.heap.size, w.heap.size, rfl, ⟨?_, ?_, World.ownsRow_nil _ _ _ _, by omega, Nat.le_refl _, by omega, fun k hk => by simp [Value.ownBlock] at hk⟩, bnext hb1 hb2⟩
  · have := new_heap w1 (.cells #[.bool false, .int .i64 (-1), .slice (some ⟨w.heap.size, 0, none⟩) n n, .slice none 0 0, .int .i64 0] 69 (0, 0))
    simpa [dk0] using this
  · have := RawAt.below hA hb2
    simpa [ArrAt, dk0] using this
section
variable {w : World} {base p gS : Nat} {vq : Value} {D : Dk}
set_option maxHeartbeats 1000000 in
theorem dsize_any (h : DkAt w base p gS vq D) : Calls Try.prog 10 #[.pointer (some ⟨p, 0, none⟩)] w fun e w' => e = .returned (.int .i64 (D.S.length : Int)) ∧ w = w' := by
  obtain ⟨c0, c1, c2, c3, c4⟩ := h.cells
  clear h
  go_enter Try.func10, Try.ntmps10
  go_wp2
  go_ret
  exact ⟨rfl, rfl⟩
set_option maxHeartbeats 1000000 in
theorem ddead_any (h : DkAt w base p gS vq D) : Calls Try.prog 11 #[.pointer (some ⟨p, 0, none⟩)] w fun e w' => e = .returned (.bool D.dead) ∧ w = w' := by
  obtain ⟨c0, c1, c2, c3, c4⟩ := h.cells
  clear h
  go_enter Try.func11, Try.ntmps11
  go_wp2
  go_ret
  exact ⟨rfl, rfl⟩
set_option maxHeartbeats 1000000 in
theorem ddeeds_any (h : DkAt w base p gS vq D) : Calls Try.prog 13 #[.pointer (some ⟨p, 0, none⟩)] w fun e w' => e = .returned (.int .i64 D.deeds) ∧ w = w' := by
  obtain ⟨c0, c1, c2, c3, c4⟩ := h.cells
  clear h
  go_enter Try.func13, Try.ntmps13
  go_wp2
  go_ret
  exact ⟨rfl, rfl⟩
def armD (D : Dk) (n : Int) : Dk := if D.dead then D else { D with arm := mxI n (-1) }
def HeadTo (w : World) (base p gS : Nat) (vq : Value) (D : Dk) (v : Value) (e : Ending) (w' : World) : Prop := e = .returned v ∧ DkAt w' base p gS vq D ∧ Keep (· = p) w w'
set_option maxHeartbeats 1000000 in
theorem darm_any (n : Int) (h : DkAt w base p gS vq D) : Calls Try.prog 16 #[.pointer (some ⟨p, 0, none⟩), .int .i64 n] w (HeadTo w base p gS vq (armD D n) (.tuple #[])) := by
  obtain ⟨c0, c1, c2, c3, c4⟩ := h.cells
  have HD := Lib.hid h
  cases hd : D.dead with
  | true =>
    have hA : armD D n = D := by unfold armD; rw [if_pos hd]
    rw [hA]
    rw [hd] at c0
    clear h
    go_enter Try.func16, Try.ntmps16
    go_wp2
    go_end0
    exact ⟨rfl, HD.out, Keep.refl _ _⟩
  | false =>
    have hA : armD D n = { D with arm := mxI n (-1) } := by unfold armD; rw [if_neg (by simp [hd])]
    rw [hA]
    rw [hd] at c0
    have hf : w.frozen? ⟨p, 1, none⟩ = false := free_row h.head 1
    have HS := Lib.hid (h.set 1 (.int .i64 (mxI n (-1))) { D with arm := mxI n (-1) } vq rfl rfl (.inl ⟨rfl, rfl⟩))
    clear h
    go_enter Try.func16, Try.ntmps16
    go_wp2
    go_end0
    exact ⟨rfl, HS.out, (Keep.refl _ w).setCell p 1 _ rfl⟩
def deedD (D : Dk) : Dk × Int := if D.arm = 0 then ({ D with dead := true }, 20) else ({ D with arm := if 0 < D.arm then D.arm - 1 else D.arm, deeds := D.deeds + 1 }, 0)
set_option maxHeartbeats 2000000 in
theorem ddeed_any (h : DkAt w base p gS vq D) (h1 : -1 ≤ D.arm ∧ D.arm ≤ 9223372036854775807) (h2 : 0 ≤ D.deeds ∧ D.deeds ≤ 1000000) : Calls Try.prog 27 #[.pointer (some ⟨p, 0, none⟩)] w (HeadTo w base p gS vq (deedD D).1 (.int .i64 (deedD D).2)) := by
  obtain ⟨c0, c1, c2, c3, c4⟩ := h.cells
  have e0 : w.frozen? ⟨p, 0, none⟩ = false := free_row h.head 0
  have e1 : w.frozen? ⟨p, 1, none⟩ = false := free_row h.head 1
  have e4 : w.frozen? ⟨p, 4, none⟩ = false := free_row h.head 4
  have hwd : wrap64 (D.deeds + 1) = D.deeds + 1 := by rw [← i64_w]; exact IntWalk.i64_in _ (by omega)
  by_cases ha : D.arm = 0
  · have hA : deedD D = ({ D with dead := true }, 20) := by unfold deedD; rw [if_pos ha]
    rw [hA]
    rw [ha] at c1
    have HS := Lib.hid (h.set 0 (.bool true) { D with dead := true } vq rfl rfl (.inl ⟨rfl, rfl⟩))
    clear h
    go_enter Try.func27, Try.ntmps27
    go_wp2
    go_ret
    exact ⟨rfl, HS.out, (Keep.refl _ w).setCell p 0 _ rfl⟩
  · by_cases hp : 0 < D.arm
    · have hA : deedD D = ({ D with arm := D.arm - 1, deeds := D.deeds + 1 }, 0) := by unfold deedD; rw [if_neg ha, if_pos hp]
      rw [hA]
      have hwa : wrap64 (D.arm - 1) = D.arm - 1 := by rw [← i64_w]; exact IntWalk.i64_in _ (by omega)
      have hS1 := h.set 1 (.int .i64 (D.arm - 1)) { D with arm := D.arm - 1 } vq rfl rfl (.inl ⟨rfl, rfl⟩)
      have HS := Lib.hid (hS1.set 4 (.int .i64 (D.deeds + 1)) { D with arm := D.arm - 1, deeds := D.deeds + 1 } vq rfl rfl (.inl ⟨rfl, rfl⟩))
      have hab : (D.arm == 0) = false := by simpa using ha
      clear h hS1
      go_enter Try.func27, Try.ntmps27
      go_wp2
      go_ret
      exact ⟨rfl, HS.out, Keep.setCell (F := (· = p)) (Keep.setCell (F := (· = p)) (Keep.refl _ w) p 1 _ rfl) p 4 _ rfl⟩
    · have hA : deedD D = ({ D with deeds := D.deeds + 1 }, 0) := by unfold deedD; rw [if_neg ha, if_neg hp]
      rw [hA]
      have HS := Lib.hid (h.set 4 (.int .i64 (D.deeds + 1)) { D with deeds := D.deeds + 1 } vq rfl rfl (.inl ⟨rfl, rfl⟩))
      have hab : (D.arm == 0) = false := by simpa using ha
      clear h
      go_enter Try.func27, Try.ntmps27
      go_wp2
      go_ret
      exact ⟨rfl, HS.out, (Keep.refl _ w).setCell p 4 _ rfl⟩
end
end Go.Proofs.Ytiehfaiadhhndaa
