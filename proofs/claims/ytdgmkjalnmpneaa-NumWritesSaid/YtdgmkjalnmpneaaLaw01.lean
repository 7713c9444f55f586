/-
  The statements of layer 1: numbers in bytes.
-/
import Derived.Test.YtdgmkjalnmpneaaRef01
namespace Go.Proofs.Ytdgmkjalnmpneaa
open Go.RowKit
set_option linter.unusedVariables false

theorem below_drewN {B : Nat} {w W : World} (h : Below B w W) (n : Nat) : Below B w (W.drewN n) := ⟨h.os, h.tape, h.output, h.size, h.block⟩
theorem PutOwn.below {E : TypeId} {w w' : World} {base : Nat} {v : Value} {l : List UInt8} {n : Int} {e : Ending} (h : PutOwn E w base v l n e w') (hb : base ≤ w.heap.size) (hv : ∀ k, v.ownBlock = some k → base ≤ k) : Below base w w' :=
  ⟨h.2.2.1.os, h.2.2.1.tape, h.2.2.1.output, h.2.2.1.size, fun k hk => h.2.2.1.block k (by omega) (fun e => by have := hv k e.symm; omega)⟩
set_option maxHeartbeats 400000 in
theorem awake01 (w : World) : Calls Try.prog 7 #[] w fun e w' => e = .returned (.bool true) ∧ Below w.heap.size w w' := by
  go_enter Try.func7, Try.ntmps7
  go_wp2_with ((at_make; refine wpList_make_rd _ rfl _ _ 22 rfl w.heap.size 5 (.int .u8 0) 1 1 Try.underlying22 infoU8 4 4 4 rfl rfl rfl rfl (by decide) (by decide) (Nat.le_refl _) ?_; intro w1 hown1 hbel1; rw [made_bytes] at hown1))
  refine (put_own 5 w.heap.size _ (List.replicate 4 0) 1 2 258 _ (by decide) (by decide) hown1).mono ?_
  rintro e w2 ⟨rfl, hown2, hg2, hs2⟩
  have hbel2 := hbel1.trans (grown_below hown1 hg2 hbel1.size)
  clear hown1 hg2
  rw [show putR (List.replicate 4 0) 1 2 258 = [0, 2, 1, 0] by decide +kernel] at hown2
  rw [show putE (List.replicate 4 (0 : UInt8)).length 1 2 258 = 0 by decide +kernel]
  have hb2 := (own_byt hown2).1
  go_wp2_with (go_at_call 12; refine (get_any _ [0, 2, 1, 0] 0 4 _ (by decide) hb2).mono ?_; rintro e w' ⟨rfl, rfl⟩; rw [show getN [0, 2, 1, 0] 0 4 = 66048 by decide +kernel, show getE [(0 : UInt8), 2, 1, 0].length 0 4 = 0 by decide +kernel])
  refine (put_own 5 w.heap.size _ [0, 2, 1, 0] 1 4 0 _ (by decide) (by decide) hown2).mono ?_
  rintro e w3 ⟨rfl, hown3, hg3, hs3⟩
  have hbel3 := hbel2.trans (grown_below hown2 hg3 hbel2.size)
  rw [show putE [(0 : UInt8), 2, 1, 0].length 1 4 0 = 1 by decide +kernel]
  clear hown3 hg3 hown2 hb2
  go_wp2
  go_ret
  exact ⟨rfl, hbel3⟩

set_option maxHeartbeats 400000 in
theorem numGets_walk (v : Value) (l : List UInt8) (at_ width : Int) (w : World) (hn : l.length ≤ 140737488355328) (hv : Byt w v l) :
    Calls Try.prog 4 #[v, .int .i64 at_, .int .i64 width] w fun e w' => e = .returned (.bool true) ∧ Below w.heap.size w w' := by
  have HV := Lib.hid hv
  clear hv
  go_enter Try.func4, Try.ntmps4
  go_wp2_with (first
    | (go_at_call 7; refine (awake01 _).mono ?_; rintro e w1 ⟨rfl, hb1⟩)
    | (go_at_call 12; refine (get_any v l at_ width _ hn (HV.out.below hb1)).mono ?_; rintro e w' ⟨rfl, rfl⟩)
    | (go_at_call 13; refine (rget_any v l at_ width _ hn (HV.out.below hb1)).mono ?_; rintro e w' ⟨rfl, rfl⟩))
  go_ret
  exact ⟨by simp, hb1⟩

theorem part_putL (l : List UInt8) (a k x : Nat) (h : a + k ≤ l.length) (hx : x < 256 ^ k) : part (putL l a k x) a k = x := by
  have h1 : (l.take a).length = a := by simp; omega
  unfold part putL
  rw [List.append_assoc, List.drop_append_of_le_length (by omega), List.drop_eq_nil_of_le (by omega), List.nil_append, List.take_append_of_le_length (by simp), List.take_of_length_le (by simp), leNat_le_of _ _ hx]
theorem putOk_fits {n : Nat} {at_ width : Int} {x : Nat} (h : putOk n at_ width x = true) : fitsB n at_ width = true ∧ x < 256 ^ width.toNat := by
  simpa [putOk] using h
set_option maxHeartbeats 1000000 in
theorem numPuts_walk (v : Value) (l : List UInt8) (at_ width : Int) (x : Nat) (w : World) (hn : l.length ≤ 140737488351232) (hv : Byt w v l) (hx : x < 2 ^ 64) :
    Calls Try.prog 3 #[v, .agg #[.int .i64 at_, .int .i64 width], .int .u64 x] w fun e w' => e = .returned (.bool true) ∧ Below w.heap.size w w' := by
  have HX := Lib.hid hx; clear hx
  have HV := Lib.hid hv; clear hv
  have hb0 := (Below.refl w.heap.size w).alloc (Nat.le_refl _) (.cells #[.int .i64 at_, .int .i64 width] 23 (0, 0))
  go_enter Try.func3, Try.ntmps3
  go_wp2_with (go_at_call 7; refine (awake01 _).mono ?_; rintro e w1 ⟨rfl, hb1⟩; obtain ⟨hc, hf⟩ := bcell hb1)
  go_quiet (fail)
  have hB1 : Below w.heap.size w (w1.drewN nq) := below_drewN (hb0.trans (hb1.mono (by simp))) nq
  generalize w1.drewN nq = W1 at hB1 ⊢
  clear hb1 hc hf hb0
  go_wp2_with (first
    | (go_at_call 8; refine (copy_any v l _ (by omega) (HV.out.below hB1)).mono ?_; rintro e W2 ⟨v2, rfl, hown2, hb2⟩)
    | (go_at_call 9; refine (put_own 5 W1.heap.size v2 l at_ width x _ (by omega) HX.out hown2).mono ?_; rintro e W3 ⟨rfl, hown3, hg3, hs3⟩))
  have hB2 : Below w.heap.size w W2 := hB1.trans (hb2.mono hB1.size)
  have hB3 : Below w.heap.size w W3 := hB2.trans ((grown_below hown2 hg3 hb2.size).mono hB1.size)
  have hbyt3 := HV.out.below hB3
  have hbown := (own_byt (l := putR l at_ width x) (n := l.length) (by rw [← putR_length l at_ width x]; exact hown3)).1
  have hlR := putR_length l at_ width x
  cases hp : putOk l.length at_ width x with
  | false =>
    have e1 : putR l at_ width x = l := by simp [putR, hp]
    have e2 : putE l.length at_ width x = 1 := by simp [putE, hp]
    have hsl : ∃ A c, v = .slice A l.length c := by
      rcases HV.out with ⟨h', A, c, h, _⟩ | ⟨b, o, c, h, _⟩
      · exact ⟨A, c, by rw [h, h']; rfl⟩
      · exact ⟨_, c, h⟩
    obtain ⟨A, c, rfl⟩ := hsl
    rw [e1] at hbown
    rw [e2]
    have HP := Lib.hid hp
    clear hp e1 e2 hlR hown3 hg3 hown2 hb2 hB2
    go_wp2_with (first
      | (go_at_call 10; refine (rput_no A l.length c at_ width x _ (by omega) HX.out HP.out).mono ?_; rintro e W4 ⟨rfl, rfl⟩)
      | (go_at_call 11; refine (equal_any _ _ l l _ (by omega) (by omega) hbown hbyt3).mono ?_; rintro e W4 ⟨rfl, nd, rfl⟩; rw [decide_eq_true rfl]))
    go_ret
    exact ⟨rfl, below_drewN hB3 nd⟩
  | true =>
    obtain ⟨hf, hxk⟩ := putOk_fits hp
    obtain ⟨h1, h2, h3, h4⟩ := (fitsB_iff _ _ _).1 hf
    obtain ⟨a, rfl⟩ := Int.eq_ofNat_of_zero_le h3
    obtain ⟨k, rfl⟩ := Int.eq_ofNat_of_zero_le (show 0 ≤ width by omega)
    simp only [Int.toNat_natCast] at hxk
    have e1 : putR l a k x = putL l a k x := by simp [putR, hp]
    have e2 : putE l.length a k x = 0 := by simp [putE, hp]
    have hLl := putL_length l a k x (by omega)
    have hgN : getN (putL l a k x) a k = x := by
      unfold getN; rw [hLl, hf, if_pos rfl, Int.toNat_natCast, Int.toNat_natCast, part_putL l a k x (by omega) hxk]
    have hgE : getE (putL l a k x).length a k = 0 := by unfold getE; rw [hLl, hf, if_pos rfl]
    rw [e1] at hbown
    rw [e2]
    rcases HV.out with ⟨rfl, _⟩ | ⟨b, o, c, rfl, hlc, hcm, _⟩
    · simp at h4; omega
    · have hr3 : RdB W3 b o l := by
        rcases hbyt3 with ⟨rfl, _⟩ | ⟨b', o', c', he, _, _, hr⟩
        · simp at h4; omega
        · injection he with e1 e2 e3; injection e1 with e1; injection e1 with e4 e5; subst e4; subst e5; exact hr
      have HK := Lib.hid hxk
      have HL := Lib.hid hLl
      have HN := Lib.hid hgN
      have HE := Lib.hid hgE
      clear hp e1 e2 hlR hown3 hg3 hown2 hb2 hB2 hxk hLl hgN hgE hf hbyt3
      go_wp2_with (first
        | (go_at_call 10; refine (rput_yes b o c l a k x _ (by omega) hlc hcm hr3 HX.out (by omega) (by omega) (by omega) HK.out).mono ?_; rintro e W4 ⟨v4, rfl, hown4, hb4⟩; have hbown4 := (own_byt hown4).1; have hbownr := hbown.below hb4)
        | (go_at_call 11; refine (equal_any _ _ (putL l a k x) (putL l a k x) _ (by rw [HL.out]; omega) (by rw [HL.out]; omega) hbownr hbown4).mono ?_; rintro e W5 ⟨rfl, nd, rfl⟩; rw [decide_eq_true rfl])
        | (go_at_call 12; refine (get_any _ (putL l a k x) a k _ (by rw [HL.out]; omega) (hbownr.below (below_drewN (Below.refl _ _) nd))).mono ?_; rintro e W6 ⟨rfl, rfl⟩; rw [HN.out, HE.out]))
      go_ret
      exact ⟨by simp, below_drewN (hB3.trans (hb4.mono hB3.size)) nd⟩
end Go.Proofs.Ytdgmkjalnmpneaa
