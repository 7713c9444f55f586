/-
  Disk: Flush, Queue.
-/
import Derived.Test.YtiehfaiadhhndaaDskF
namespace Go.Proofs.Ytiehfaiadhhndaa
open Go.RowKit
set_option linter.unusedVariables false
set_option linter.unusedSimpArgs false
/-- What a disk is in all that is done to it. -/
structure DOk (D : Dk) (m : Nat) : Prop where
  arm : -1 ≤ D.arm ∧ D.arm ≤ 9223372036854775807
  deeds : 0 ≤ D.deeds ∧ D.deeds ≤ m
  len : D.Q.length ≤ m
  at_ : ∀ q ∈ D.Q, 0 ≤ q.at_ ∧ q.at_ < (D.S.length : Int)
def flushD (D : Dk) : Dk × Int := if D.dead then (D, 20) else if D.arm = 0 then deedD D else ({ (deedD D).1 with S := layS D.S D.Q, Q := [] }, 0)
section
variable {w w' : World} {base p gS : Nat} {vq : Value} {D : Dk}
set_option maxHeartbeats 4000000 in
theorem dflush_any (h : DkAt w base p gS vq D) {m : Nat} (hm : m ≤ 1000) (ho : DOk D m) : Calls Try.prog 17 #[.pointer (some ⟨p, 0, none⟩)] w (DTo w base p gS vq (flushD D).1 (.int .i64 (flushD D).2)) := by
  obtain ⟨c0, c1, c2, c3, c4⟩ := h.cells
  have HD := Lib.hid h
  have HDE := Lib.hid (ddeed_any h ho.arm ⟨ho.deeds.1, by have := ho.deeds.2; omega⟩)
  unfold HeadTo at HDE
  cases hd : D.dead with
  | true =>
    have hF : flushD D = (D, 20) := by unfold flushD; rw [if_pos hd]
    rw [hF]
    rw [hd] at c0
    clear h HDE
    go_enter Try.func17, Try.ntmps17
    go_wp2
    go_ret
    exact ⟨rfl, _, HD.out, Keep.refl _ _, fun k hk => .inl hk⟩
  | false =>
    rw [hd] at c0
    by_cases ha : D.arm = 0
    · have hF : flushD D = deedD D := by unfold flushD; rw [if_neg (by simp [hd]), if_pos ha]
      have hE : (deedD D).2 = 20 := by unfold deedD; rw [if_pos ha]
      rw [hF]
      rw [hE] at HDE ⊢
      clear h c1 c2 c3 c4
      go_enter Try.func17, Try.ntmps17
      go_wp2_with (first
        | (go_at_call 27; go_must (refine HDE.out.mono ?_; rintro e w1 ⟨rfl, hd1, hk1⟩; have HD1 := Lib.hid hd1; have HK1 := Lib.hid hk1; clear hd1 hk1)))
      go_ret
      exact ⟨rfl, _, HD1.out, Keep.mono HK1.out (fun k e => .inl e), fun k hk => .inl hk⟩
    · have hF : flushD D = ({ (deedD D).1 with S := layS D.S D.Q, Q := [] }, 0) := by unfold flushD; rw [if_neg (by simp [hd]), if_neg ha]
      have hE : (deedD D).2 = 0 := by unfold deedD; rw [if_neg ha]
      have hSQ : (deedD D).1.S = D.S ∧ (deedD D).1.Q = D.Q := by unfold deedD; rw [if_neg ha]; exact ⟨rfl, rfl⟩
      rw [hF]
      rw [hE] at HDE
      have HSQ := Lib.hid hSQ
      clear h c1 c2 c3 c4 hSQ
      generalize (deedD D).1 = D1 at *
      go_enter Try.func17, Try.ntmps17
      go_upto_region 6 with (first
        | (go_at_call 27; go_must (refine HDE.out.mono ?_; rintro e w1 ⟨rfl, hd1, hk1⟩; have HD1 := Lib.hid hd1; have HK1 := Lib.hid hk1; clear hd1 hk1)))
      rename_i w1
      obtain ⟨d0, d1, d2, d3, d4⟩ := HD1.out.cells
      obtain ⟨sq, cq, hvq⟩ := own_slice1 HD1.out.que
      have hsrc := own_src HD1.out.que (g := gS) (fun k hk => (HD1.out.qp k hk).2)
      have HLY := Lib.hid (dlay_any D1.Q vq HD1.out hsrc (by rw [HSQ.out.2]; have := ho.len; omega) (by rw [HSQ.out.1, HSQ.out.2]; exact ho.at_))
      subst hvq
      go_upto_region 7 with (first
        | (go_at_call 28; go_must (refine HLY.out.mono ?_; rintro e w2 ⟨rfl, hd2, hk2⟩; have HD2 := Lib.hid hd2; have HK2 := Lib.hid hk2; clear hd2 hk2)))
      rename_i w2
      clear d0 d1 d2 d3 d4
      obtain ⟨d0, d1, d2, d3, d4⟩ := HD2.out.cells
      have e3 := free_row HD2.out.head 3
      have hfin := HD2.out.set 3 (.slice none 0 0) { D1 with S := layS D1.S D1.Q, Q := [] } (.slice none 0 0) rfl rfl (.inr ⟨rfl, rfl⟩)
      have HF := Lib.hid hfin
      clear hfin
      go_wp2
      go_ret
      refine ⟨rfl, .slice none 0 0, ?_, ((Keep.mono HK1.out (fun k e => .inl e)).trans (Keep.mono HK2.out (fun k e => .inr (.inl e)))).setCell p 3 _ (.inl rfl), fun k hk => by simp [Value.ownBlock] at hk⟩
      have := HF.out
      rw [HSQ.out.1, HSQ.out.2] at this
      exact this
end
end Go.Proofs.Ytiehfaiadhhndaa
