/-
  The walk of NumApart: numbers that stand apart in bytes don't disturb one another.
-/
import Derived.Test.YtdgmkjalnmpneaaLaw01
import Derived.Deep.DeepCutAuto
namespace Go.Proofs.Ytdgmkjalnmpneaa
open Go.RowKit
set_option linter.unusedVariables false
set_option linter.unusedSimpArgs false

/-- The four cells of the two arrays that came in, boxed. -/
def Four (W : World) (g : Nat) (a0 a1 : Int) (x0 x1 : Nat) : Prop :=
  W.cell? ⟨g, 0, none⟩ = some (.int .i64 a0) ∧ W.cell? ⟨g, 1, none⟩ = some (.int .i64 a1) ∧ W.cell? ⟨g + 1, 0, none⟩ = some (.int .u64 x0) ∧ W.cell? ⟨g + 1, 1, none⟩ = some (.int .u64 x1)
theorem Four.below {W W' : World} {g : Nat} {a0 a1 : Int} {x0 x1 : Nat} (h : Four W g a0 a1 x0 x1) (hb : Below (g + 2) W W') : Four W' g a0 a1 x0 x1 :=
  ⟨(hb.cell (p := ⟨g, 0, none⟩) (by show g < _; omega)).trans h.1, (hb.cell (p := ⟨g, 1, none⟩) (by show g < _; omega)).trans h.2.1, (hb.cell (p := ⟨g + 1, 0, none⟩) (by show g + 1 < _; omega)).trans h.2.2.1, (hb.cell (p := ⟨g + 1, 1, none⟩) (by show g + 1 < _; omega)).trans h.2.2.2⟩
def boxed (w : World) (a0 a1 : Int) (x0 x1 : Nat) : World := (w.alloc (.cells #[.int .i64 a0, .int .i64 a1] 23 (0, 0))).alloc (.cells #[.int .u64 x0, .int .u64 x1] 38 (0, 0))
theorem boxed_size (w : World) (a0 a1 : Int) (x0 x1 : Nat) : (boxed w a0 a1 x0 x1).heap.size = w.heap.size + 2 := by simp [boxed]
theorem boxed_four (w : World) (a0 a1 : Int) (x0 x1 : Nat) : Four (boxed w a0 a1 x0 x1) w.heap.size a0 a1 x0 x1 := by
  have h1 := heap_alloc_new w (.cells #[.int .i64 a0, .int .i64 a1] 23 (0, 0))
  have h1' := (Below.heap_alloc (w.alloc (.cells #[.int .i64 a0, .int .i64 a1] 23 (0, 0))) (.cells #[.int .u64 x0, .int .u64 x1] 38 (0, 0)) w.heap.size (by simp)).trans h1
  have h2 := heap_alloc_new (w.alloc (.cells #[.int .i64 a0, .int .i64 a1] 23 (0, 0))) (.cells #[.int .u64 x0, .int .u64 x1] 38 (0, 0))
  have e : (w.alloc (.cells #[.int .i64 a0, .int .i64 a1] 23 (0, 0))).heap.size = w.heap.size + 1 := by simp
  rw [e] at h2
  exact ⟨by unfold boxed; rw [cell_row h1']; rfl, by unfold boxed; rw [cell_row h1']; rfl, by unfold boxed; rw [cell_row h2]; rfl, by unfold boxed; rw [cell_row h2]; rfl⟩
theorem boxed_below (w : World) (a0 a1 : Int) (x0 x1 : Nat) : Below w.heap.size w (boxed w a0 a1 x0 x1) := ((Below.refl _ _).alloc (Nat.le_refl _) _).alloc (by simp) _

def apartB (a0 a1 : Int) : Bool := decide (0 ≤ a0 ∧ 0 ≤ a1 ∧ (3 ≤ a1 - a0 ∨ 3 ≤ a0 - a1))
theorem apart_of {b : Bool} {a0 a1 : Int} (h : b = true ↔ (0 ≤ a0 ∧ 0 ≤ a1 ∧ (3 ≤ a1 - a0 ∨ 3 ≤ a0 - a1))) : Value.bool b = Value.bool (apartB a0 a1) := by
  congr 1; rw [Bool.eq_iff_iff, h]; simp [apartB]
theorem part_apart (l : List UInt8) (a k x b m : Nat) (h : a + k ≤ l.length) (hb : b + m ≤ l.length) (hab : a + k ≤ b ∨ b + m ≤ a) : part (putL l a k x) b m = part l b m := by
  unfold part
  congr 1
  apply List.ext_getElem?
  intro i
  by_cases hi : i < m
  · rw [List.getElem?_take_of_lt hi, List.getElem?_take_of_lt hi, List.getElem?_drop, List.getElem?_drop]
    unfold putL
    have h1 : (l.take a).length = a := by simp; omega
    rcases hab with hab | hab
    · rw [List.getElem?_append_right (by simp; omega), List.getElem?_drop]
      congr 1; simp; omega
    · rw [List.append_assoc, List.getElem?_append_left (by omega), List.getElem?_take_of_lt (by omega)]
  · rw [List.getElem?_eq_none (by simp; omega), List.getElem?_eq_none (by simp; omega)]
theorem and_mask (x : Nat) (hx : x < 2 ^ 64) : bits .and .u64 (x : Int) 16777215 = ((x % 16777216 : Nat) : Int) := by
  have := bits_and_u64_nat x 16777215 (by omega) (by decide)
  rw [show ((16777215 : Nat) : Int) = 16777215 from rfl] at this
  rw [this, show 16777215 = 2 ^ 24 - 1 by decide, Nat.and_two_pow_sub_one_eq_mod]
set_option maxHeartbeats 1000000 in
set_option maxRecDepth 10000 in
theorem numApart_walk (v : Value) (l : List UInt8) (a0 a1 : Int) (x0 x1 : Nat) (w : World) (hn : l.length ≤ 140737488351232) (hv : Byt w v l) (hx0 : x0 < 2 ^ 64) (hx1 : x1 < 2 ^ 64) (ha0 : a0 ≤ 9223372036854775807) (ha1 : a1 ≤ 9223372036854775807) :
    Calls Try.prog 5 #[v, .agg #[.int .i64 a0, .int .i64 a1], .agg #[.int .u64 x0, .int .u64 x1]] w fun e w' => e = .returned (.bool true) ∧ Below w.heap.size w w' := by
  have H4 := boxed_four w a0 a1 x0 x1
  have HS := Lib.hid (boxed_size w a0 a1 x0 x1)
  have HB := boxed_below w a0 a1 x0 x1
  have HV := Lib.hid (hv.below HB)
  obtain ⟨m0, hm0⟩ : ∃ m, m = x0 % 16777216 := ⟨_, rfl⟩
  obtain ⟨m1, hm1⟩ : ∃ m, m = x1 % 16777216 := ⟨_, rfl⟩
  have e0 := and_mask x0 hx0
  have e1 := and_mask x1 hx1
  rw [← hm0] at e0
  rw [← hm1] at e1
  have M0 : Hid (m0 < 256 ^ 3) := by unfold Hid; rw [hm0]; exact Nat.mod_lt _ (by decide)
  have M1 : Hid (m1 < 256 ^ 3) := by unfold Hid; rw [hm1]; exact Nat.mod_lt _ (by decide)
  clear hm0 hm1 hv hx0 hx1
  have HA0 := Lib.hid ha0
  have HA1 := Lib.hid ha1
  clear ha0 ha1
  have hsl : ∃ A c, v = .slice A l.length c := by
    rcases HV.out with ⟨h', A, c, h, _⟩ | ⟨b, o, c, h, _⟩
    · exact ⟨A, c, by rw [h, h']; rfl⟩
    · exact ⟨_, c, h⟩
  obtain ⟨A, c, rfl⟩ := hsl
  go_enter Try.func5, Try.ntmps5
  go_upto_if 19 with (go_at_call 7; refine (awake01 _).mono ?_; rintro e w1 ⟨rfl, hb1⟩; change Below (boxed w a0 a1 x0 x1).heap.size (boxed w a0 a1 x0 x1) w1 at hb1)
  have HB1 := HB.trans (hb1.mono HB.size)
  have H41 := H4.below (hb1.mono (by rw [HS.out]; exact Nat.le_refl _))
  have hz1 : w.heap.size + 2 ≤ w1.heap.size := by have := hb1.size; rw [HS.out] at this; exact this
  have HV1 := Lib.hid (HV.out.below hb1)
  clear H4 HS HB HV hb1
  go_cut [0] (fun v wc => ∃ l', l'.length ≤ 40 ∧ Byt w1 v l' ∧ w1 = wc)
  case first =>
    by_cases hlen : 40 < l.length
    · have hcap : 40 ≤ c := by
        rcases HV1.out with ⟨h', _⟩ | ⟨b, o, c', he, h2, _⟩
        · rw [h'] at hlen; simp at hlen
        · injection he with _ _ e3; omega
      have hbyt : Byt w1 (.slice A 40 c) (l.take 40) := by
        rcases HV1.out with ⟨h', _⟩ | ⟨b, o, c', he, h2, h3, h4⟩
        · rw [h'] at hlen; simp at hlen
        · injection he with e1 e2 e3; subst e1; subst e3; exact byt_take h4 h2 h3 40 (by omega)
      have HQ := Lib.hid hbyt
      clear hbyt H41
      go_wp2
      go_meet
      case rel => exact ⟨_, by simp; omega, HQ.out, rfl⟩
    · clear H41
      go_wp2
      go_meet
      case rel => exact ⟨l, by omega, HV1.out, rfl⟩
  case rest =>
  obtain ⟨l', hl', hv', rfl⟩ := hcut
  have hsl' : ∃ A c, u0 = .slice A l'.length c := by
    rcases hv' with ⟨h', A, c, h, _⟩ | ⟨b, o, c, h, _⟩
    · exact ⟨A, c, by rw [h, h']; rfl⟩
    · exact ⟨_, c, h⟩
  have HV := Lib.hid hv'
  clear hv' HV1
  obtain ⟨A', c', rfl⟩ := hsl'
  have hP2 : ∀ (W : World) (g : Nat) (v2 : Value) (W3 : World) (xs : List Value), W.ownsRow g 5 1 v2 xs.length xs → w.heap.size + 2 ≤ g → W.grownBy W3 v2.ownBlock → g ≤ W.heap.size → Four W w.heap.size a0 a1 x0 x1 → Four W3 w.heap.size a0 a1 x0 x1 := fun W g v2 W3 xs ho hg hgr hs h4 => h4.below ((grown_below ho hgr hs).mono hg)
  go_upto_region 8 with (go_at_call 8; refine (copy_any _ l' _ (by omega) HV.out).mono ?_; rintro e w2 ⟨v2, rfl, hown2, hb2⟩; have H42 := H41.below (hb2.mono hz1); obtain ⟨c20, c21, c22, c23⟩ := H42)
  refine (put_own 5 w1.heap.size v2 l' a0 3 m0 w2 (by omega) (Nat.lt_of_lt_of_le M0.out (by decide)) hown2).mono ?_
  rintro e w3 ⟨rfl, hown3, hg3, hs3⟩
  have hB3 : Below w1.heap.size w1 w3 := hb2.trans (grown_below hown2 hg3 hb2.size)
  have H43 := H41.below (hB3.mono hz1)
  obtain ⟨c30, c31, c32, c33⟩ := H43
  clear c20 c21 c22 c23 hown2 hg3 hs3 hb2
  go_upto_region 8 with fail
  refine (put_own 5 w1.heap.size v2 (putR l' a0 3 m0) a1 3 m1 w3 (by rw [putR_length]; omega) (Nat.lt_of_lt_of_le M1.out (by decide)) hown3).mono ?_
  rintro e w4 ⟨rfl, hown4, hg4, hs4⟩
  have hB4 : Below w1.heap.size w1 w4 := hB3.trans (grown_below hown3 hg4 hB3.size)
  have H44 := H41.below (hB4.mono hz1)
  have hbyt4 := (own_byt hown4).1
  have hByt4 := HV.out.below hB4
  have hl4 : (putR (putR l' a0 3 m0) a1 3 m1).length = l'.length := by rw [putR_length, putR_length]
  clear c30 c31 c32 c33 hown3 hg4 hs4 hB3
  rw [putR_length]
  have HL4 := Lib.hid hl4
  have HO4 := Lib.hid hbyt4
  have HI4 := Lib.hid hByt4
  clear hl4 hbyt4 hByt4 hown4
  go_upto_region 8 with fail
  go_cut [10] (fun v wc => v = .bool (apartB a0 a1) ∧ w4 = wc)
  case first =>
    obtain ⟨c0, c1, c2, c3⟩ := H44
    clear H41 c2 c3
    have ha0 := HA0.out
    have ha1 := HA1.out
    by_cases k0 : 0 ≤ a0
    · by_cases k1 : 0 ≤ a1
      · by_cases k2 : a0 ≤ a1
        · go_wp2
          all_goals
            go_meet
            case rel => exact ⟨apart_of (by (try simp only [Bool.or_eq_true, Bool.and_eq_true, decide_eq_true_eq, Bool.false_eq_true, false_iff, eq_self, true_iff]); omega), rfl⟩
        · go_wp2
          all_goals
            go_meet
            case rel => exact ⟨apart_of (by (try simp only [Bool.or_eq_true, Bool.and_eq_true, decide_eq_true_eq, Bool.false_eq_true, false_iff, eq_self, true_iff]); omega), rfl⟩
      · go_wp2
        go_meet
        case rel => exact ⟨apart_of (by (try simp only [Bool.or_eq_true, Bool.and_eq_true, decide_eq_true_eq, Bool.false_eq_true, false_iff, eq_self, true_iff]); omega), rfl⟩
    · go_wp2
      go_meet
      case rel => exact ⟨apart_of (by (try simp only [Bool.or_eq_true, Bool.and_eq_true, decide_eq_true_eq, Bool.false_eq_true, false_iff, eq_self, true_iff]); omega), rfl⟩
  case rest =>
  obtain ⟨rfl, rfl⟩ := hcut
  have p0 : putE l'.length a0 3 m0 = if fitsB l'.length a0 3 then 0 else 1 := by
    unfold putE putOk; rw [show decide (m0 < 256 ^ (3 : Int).toNat) = true from decide_eq_true M0.out, Bool.and_true]
  have p1 : putE l'.length a1 3 m1 = if fitsB l'.length a1 3 then 0 else 1 := by
    unfold putE putOk; rw [show decide (m1 < 256 ^ (3 : Int).toNat) = true from decide_eq_true M1.out, Bool.and_true]
  have q0 : fitsB l'.length a0 3 = true → fitsB l'.length a1 3 = true → apartB a0 a1 = true → getN (putR (putR l' a0 3 m0) a1 3 m1) a0 3 = m0 ∧ getN (putR (putR l' a0 3 m0) a1 3 m1) a1 3 = m1 := fun f0 f1 ap => by
    have o0 : putOk l'.length a0 3 m0 = true := by unfold putOk; rw [f0, show decide (m0 < 256 ^ (3 : Int).toNat) = true from decide_eq_true M0.out]; rfl
    have o1 : putOk l'.length a1 3 m1 = true := by unfold putOk; rw [f1, show decide (m1 < 256 ^ (3 : Int).toNat) = true from decide_eq_true M1.out]; rfl
    obtain ⟨_, _, g1, g2⟩ := (fitsB_iff _ _ _).1 f0
    obtain ⟨_, _, g3, g4⟩ := (fitsB_iff _ _ _).1 f1
    obtain ⟨b0, rfl⟩ := Int.eq_ofNat_of_zero_le g1
    obtain ⟨b1, rfl⟩ := Int.eq_ofNat_of_zero_le g3
    simp only [apartB, decide_eq_true_eq] at ap
    have r0 : putR l' (b0 : Int) 3 m0 = putL l' b0 3 m0 := by unfold putR; rw [o0]; rfl
    have ll : (putL l' b0 3 m0).length = l'.length := putL_length _ _ _ _ (by omega)
    have r1 : putR (putL l' b0 3 m0) (b1 : Int) 3 m1 = putL (putL l' b0 3 m0) b1 3 m1 := by unfold putR; rw [ll, o1]; rfl
    have ll1 : (putL (putL l' b0 3 m0) b1 3 m1).length = l'.length := by rw [putL_length _ _ _ _ (by omega), ll]
    rw [r0, r1]
    unfold getN
    rw [ll1, f0, f1]
    refine ⟨?_, ?_⟩
    · show part _ b0 3 = m0
      rw [part_apart _ _ _ _ _ _ (by omega) (by omega) (by omega), part_putL _ _ _ _ (by omega) M0.out]
    · show part _ b1 3 = m1
      rw [part_putL _ _ _ _ (by omega) M1.out]
  have q1 : ∀ a, getE (putR (putR l' a0 3 m0) a1 3 m1).length a 3 = if fitsB l'.length a 3 then 0 else 1 := fun a => by unfold getE; rw [HL4.out]
  have Q0 := Lib.hid q0
  have Q1 := Lib.hid q1
  clear q0 q1
  rw [p0, p1]
  clear p0 p1
  have hl0 : l'.length ≤ 140737488355328 := by omega
  have hout : ∀ nd, Below w.heap.size w (w4.drewN nd) := fun nd => below_drewN (HB1.trans (hB4.mono HB1.size)) nd
  have HH := Lib.hid hout
  clear hout
  cases hf0 : fitsB l'.length a0 3 <;> cases hf1 : fitsB l'.length a1 3 <;> cases hap : apartB a0 a1
  all_goals
    have F0 := Lib.hid hf0
    have F1 := Lib.hid hf1
    have AP := Lib.hid hap
    simp only [hf0, hf1, if_true, if_false, Bool.false_eq_true] at Q1 ⊢
    clear hf0 hf1 hap
  case true.true.true =>
    obtain ⟨g0, g1⟩ := Q0.out F0.out F1.out AP.out
    have G0 := Lib.hid g0
    have G1 := Lib.hid g1
    obtain ⟨c0, c1, c2, c3⟩ := H44
    have e6 : Hid (getE (putR (putR l' a0 3 m0) a1 3 m1).length a0 3 = 0) := by unfold Hid; rw [Q1.out, F0.out]; rfl
    have e7 : Hid (getE (putR (putR l' a0 3 m0) a1 3 m1).length a1 3 = 0) := by unfold Hid; rw [Q1.out, F1.out]; rfl
    clear g0 g1 H41
    have hsl4 : ∃ A c, v2 = .slice A l'.length c := by
      rcases HO4.out with ⟨h', A, c, h, _⟩ | ⟨b, o, c, h, _⟩
      · exact ⟨A, c, by rw [h, ← HL4.out, h']; rfl⟩
      · exact ⟨_, c, by rw [h, HL4.out]⟩
    obtain ⟨A4, c4, rfl⟩ := hsl4
    go_wp2_with fail
    refine (get_any _ (putR (putR l' a0 3 m0) a1 3 m1) a0 3 w4 (by rw [HL4.out]; omega) HO4.out).mono ?_
    rintro e w' ⟨rfl, rfl⟩
    rw [G0.out, e6.out]
    go_wp2_with fail
    refine (get_any _ (putR (putR l' a0 3 m0) a1 3 m1) a1 3 w4 (by rw [HL4.out]; omega) HO4.out).mono ?_
    rintro e w' ⟨rfl, rfl⟩
    rw [G1.out, e7.out]
    go_wp2
    go_ret
    exact ⟨by simp, HH.out 0⟩
  all_goals
    clear Q0 Q1 HL4 HO4 HI4 AP HV HB1 H41
    obtain ⟨c0, c1, c2, c3⟩ := H44
    clear c2 c3
    go_wp2_with (go_at_call 14; refine (rfits_any _ _ _ _ _ _ hl0).mono ?_; rintro e w' ⟨rfl, rfl⟩; (first | rw [F0.out] | rw [F1.out]))
    go_ret
    exact ⟨by simp, HH.out 0⟩
end Go.Proofs.Ytdgmkjalnmpneaa
