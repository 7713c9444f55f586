/-
  The contracts of the reference's plain functions on bytes: Low, Num, Get, Copy, Equal, Put.
-/
import Derived.Test.YtdgmkjalnmpneaaNum
import Derived.Deep.QuietTactic
import Derived.BigQuiet
namespace Go.Proofs.Ytdgmkjalnmpneaa
open Go.RowKit
set_option linter.unusedVariables false

theorem u64_nat (n : Nat) (h : n < 2 ^ 64) : IntKind.u64.wrap (n : Int) = (n : Int) := by simp [IntKind.wrap, IntKind.signed, IntKind.bits]; omega
theorem u8_of_rem (q : Nat) : ((q : Int)) % 256 = ((UInt8.ofNat (q % 256)).toNat : Int) := by simp
set_option maxHeartbeats 400000 in
theorem low_any (x k : Nat) (w : World) (hx : x < 2 ^ 64) (hk : k ≤ 8) :
    Calls Try.prog 26 #[.int .u64 x, .int .i64 k] w (RetB 5 w (le k x)) := by
  go_enter Try.func26, Try.ntmps26
  go_wp2
  go_loopw [0, 5, 6] (fun n v i wr => ∃ j q : Nat, j ≤ k ∧ i = .int .i64 j ∧ n = .int .u64 (q : Int) ∧ Hid (q = x / 256 ^ j) ∧ wr.ownsRow w.heap.size 5 1 v j (bvs (le j x)) ∧ Below w.heap.size w wr) (fun _ _ i _ => (k - (intOf i)).toNat)
  case atStart => exact ⟨0, x, by omega, by rfl, by simp, by unfold Hid; simp, World.ownsRow_nil _ _ _ _, Below.refl _ _⟩
  case round =>
    obtain ⟨j, q, hj, rfl, rfl, HQ, hown, hbel⟩ := hrel
    have hb : q < 2 ^ 64 := by rw [HQ.out]; exact Nat.lt_of_le_of_lt (Nat.div_le_self _ _) hx
    have HB : Hid ((q : Int) < 18446744073709551616) := by unfold Hid; omega
    have hsz := hbel.size
    clear hb hx
    by_cases hlt : j < k
    · have hrd := rd_one (heap_alloc_new wr (.cells #[.int .u8 ((q : Int) % 256)] 5 (0, 0))) 1
      have hbel2 := hbel.alloc hsz (.cells #[.int .u8 ((q : Int) % 256)] 5 (0, 0))
      go_wp2_with (at_builtin; refine wpList_append_rd _ rfl _ _ 22 rfl w.heap.size 5 (.int .u8 0) 1 1 Try.underlying22 infoU8 rfl (by decide) _ _ _ rfl (hown.alloc _) _ 1 [.int .u8 ((q : Int) % 256)] rfl hrd ?c1 ?c2 (by decide) ?c3 ?_; (case c1 => intro u hu; simp at hu; subst hu; rfl); (case c2 => omega); (case c3 => simp; omega); intro v' w1 hown1 hbel1 hg1; clear hrd)
      have hb2 := HB.out
      go_wp2
      go_roundw
      case rel =>
        refine ⟨j + 1, q / 256, by omega, by go_num, ?_, ?_, ?_, hbel2.trans hbel1⟩
        · rw [show ((q : Int) / 256) = ((q / 256 : Nat) : Int) by simp, u64_nat _ (by omega)]
        · unfold Hid; rw [HQ.out, Nat.pow_succ, Nat.div_div_eq_div_mul]
        · rw [le_snoc, bvs_append, ← HQ.out]
          rw [u8_of_rem] at hown1
          exact hown1
      case measure => simp [intOf]; omega
    · go_wp2
      obtain rfl : j = k := by omega
      go_ret
      exact ⟨_, rfl, by simpa using hown, hbel⟩
/-! ### Num -/
theorem num_step (l : List UInt8) (j : Nat) (hj : j < l.length) (h8 : l.length ≤ 8) :
    IntKind.u64.wrap (IntKind.u64.wrap (256 * ((leNat (l.drop (j + 1)) : Nat) : Int)) + IntKind.u64.wrap ((l.getD j 0).toNat : Int)) = ((leNat (l.drop j) : Nat) : Int) := by
  have h1 : leNat (l.drop j) = (l.getD j 0).toNat + 256 * leNat (l.drop (j + 1)) := by
    rw [List.drop_eq_getElem_cons hj, leNat]; simp [List.getElem?_eq_getElem hj]
  have h2 : leNat (l.drop j) < 2 ^ 64 := by
    refine Nat.lt_of_lt_of_le (leNat_lt _) ?_
    calc 256 ^ (l.drop j).length ≤ 256 ^ 8 := Nat.pow_le_pow_right (by decide) (by simp; omega)
      _ = 2 ^ 64 := by decide
  have h3 : (l.getD j 0).toNat < 256 := UInt8.toNat_lt _
  rw [h1] at h2 ⊢
  rw [show (256 * ((leNat (l.drop (j + 1)) : Nat) : Int)) = ((256 * leNat (l.drop (j + 1)) : Nat) : Int) by simp, u64_nat _ (by omega), u64_nat _ (by omega), ← Int.natCast_add, u64_nat _ (by omega)]
  congr 1; omega
set_option maxHeartbeats 400000 in
theorem rnum_some (b o c : Nat) (l : List UInt8) (w : World) (h8 : l.length ≤ 8) (hc : RdB w b o l) :
    Calls Try.prog 27 #[.slice (some ⟨b, o, none⟩) l.length c] w fun e w' => e = .returned (.int .u64 (leNat l)) ∧ w = w' := by
  have HC := Lib.hid hc; clear hc
  go_enter Try.func27, Try.ntmps27
  go_wp2
  go_loop [3, 4] (fun n i => ∃ j q : Nat, j ≤ l.length ∧ i = .int .i64 ((j : Int) - 1) ∧ n = .int .u64 (q : Int) ∧ Hid (q = leNat (l.drop j))) (fun _ i => (intOf i + 1).toNat)
  case atStart => exact ⟨l.length, 0, by omega, by rfl, by rfl, by unfold Hid; simp [leNat]⟩
  case round =>
    obtain ⟨j, q, hj, rfl, rfl, HQ⟩ := hrel
    by_cases hlt : 0 < j
    · obtain ⟨i, rfl⟩ : ∃ i, j = i + 1 := ⟨j - 1, by omega⟩
      have hcell := HC.out i (by omega)
      have hstep := num_step l i (by omega) h8
      rw [← HQ.out] at hstep
      have HS := Lib.hid hstep; clear hstep
      have e1 : ((i + 1 : Nat) : Int) - 1 = (i : Int) := by omega
      rw [e1]
      clear e1
      go_wp2
      go_round
      case rel => exact ⟨i, leNat (l.drop i), by omega, by rfl, by rw [← HS.out]; simp, rfl⟩
      case measure => simp [intOf]
    · obtain rfl : j = 0 := by omega
      go_wp2
      go_ret
      exact ⟨by simp only [HQ.out]; rfl, rfl⟩
theorem rnum_any (v : Value) (l : List UInt8) (w : World) (h8 : l.length ≤ 8) (hv : Byt w v l) (hne : l ≠ []) :
    Calls Try.prog 27 #[v] w fun e w' => e = .returned (.int .u64 (leNat l)) ∧ w = w' := by
  rcases hv with ⟨rfl, _⟩ | ⟨b, o, c, rfl, _, _, hr⟩
  · exact absurd rfl hne
  · exact rnum_some b o c l w h8 hr
/-! ### Copy -/
set_option maxHeartbeats 400000 in
theorem copy_any (v : Value) (l : List UInt8) (w : World) (hn : l.length ≤ 140737488355328) (hv : Byt w v l) :
    Calls Try.prog 8 #[v] w (RetB 5 w l) := by
  have hrd := hv.rd.below ((Below.refl _ _).alloc (Nat.le_refl _) (.cells #[] 5 (0, 0)))
  have hown := World.ownsRow_made (base := w.heap.size) (e := 5) (size := 1) w #[] 0 (Nat.le_refl _) (by decide) rfl
  have hbel := (Below.refl w.heap.size w).alloc (Nat.le_refl _) (.cells #[] 5 (0, 0))
  go_enter Try.func8, Try.ntmps8
  go_wp2_with (at_builtin; refine wpList_append_rd _ rfl _ _ 22 rfl w.heap.size 5 (.int .u8 0) 1 1 Try.underlying22 infoU8 rfl (by decide) _ 0 [] rfl hown v l.length (bvs l) rfl hrd (bvs_oneCell l) ?c2 (by decide) ?c3 ?_; (case c2 => omega); (case c3 => simp); intro v' w1 hown1 hbel1 hg1; clear hrd)
  go_ret
  exact ⟨_, rfl, by simpa using hown1, hbel.trans hbel1⟩
/-! ### Equal -/
def Same (w : World) (v : Value) (e : Ending) (w' : World) : Prop := e = .returned v ∧ ∃ n, w' = w.drewN n
theorem take_same (a b : List UInt8) (j : Nat) (ha : j < a.length) (hb : j < b.length) (h : a.take j = b.take j) (he : a.getD j 0 = b.getD j 0) : a.take (j + 1) = b.take (j + 1) := by
  rw [List.take_succ_eq_append_getElem ha, List.take_succ_eq_append_getElem hb, h]
  simp [List.getElem?_eq_getElem ha, List.getElem?_eq_getElem hb] at he
  rw [he]
theorem getD_of_eq (a b : List UInt8) (j : Nat) (h : a = b) : a.getD j 0 = b.getD j 0 := by rw [h]
set_option maxHeartbeats 400000 in
theorem equal_some (b1 o1 c1 b2 o2 c2 : Nat) (l1 l2 : List UInt8) (w : World) (hn : l1.length ≤ 140737488355328) (hl : l1.length = l2.length) (h1 : RdB w b1 o1 l1) (h2 : RdB w b2 o2 l2) :
    Calls Try.prog 11 #[.slice (some ⟨b1, o1, none⟩) l1.length c1, .slice (some ⟨b2, o2, none⟩) l2.length c2] w (Same w (.bool (decide (l1 = l2)))) := by
  have H1 := Lib.hid h1; clear h1
  have H2 := Lib.hid h2; clear h2
  have HL := Lib.hid hl
  rw [← hl]; clear hl
  have hnn : ((l1.length : Int) != (l1.length : Int)) = false := by simp
  go_enter Try.func11, Try.ntmps11
  go_wp2
  clear hnn
  go_loopw [5] (fun i wr => ∃ j n : Nat, j ≤ l1.length ∧ i = .int .i64 (j : Int) ∧ Hid (l1.take j = l2.take j) ∧ wr = w.drewN n) (fun i _ => (l1.length - intOf i).toNat)
  case atStart => exact ⟨0, 0, by omega, by rfl, by unfold Hid; simp, rfl⟩
  case round =>
    obtain ⟨j, n, hj, rfl, HQ, rfl⟩ := hrel
    by_cases hlt : j < l1.length
    · have hcell1 := H1.out j (by omega)
      have hcell2 := H2.out j (by rw [← HL.out]; omega)
      obtain ⟨x1, e1⟩ : ∃ x, x = (l1.getD j 0).toNat := ⟨_, rfl⟩
      obtain ⟨x2, e2⟩ : ∃ x, x = (l2.getD j 0).toNat := ⟨_, rfl⟩
      rw [← e1] at hcell1
      rw [← e2] at hcell2
      by_cases he : x1 = x2
      · have he' : l1.getD j 0 = l2.getD j 0 := UInt8.toNat_inj.1 (by rw [← e1, ← e2]; exact he)
        have HT := Lib.hid (take_same l1 l2 j hlt (by rw [← HL.out]; omega) HQ.out he')
        clear he' e1 e2
        subst he
        have heq : ((x1 : Int) != (x1 : Int)) = false := by simp
        go_wp2
        go_quiet (fail)
        go_wp2
        exact ⟨⟨j + 1, n + nq, by omega, by go_num, HT, rfl⟩, by simp [intOf]; omega⟩
      · have hne : decide (l1 = l2) = false := by
          simp only [decide_eq_false_iff_not]
          intro h; exact he (by rw [e1, e2, getD_of_eq _ _ j h])
        have heq : ((x1 : Int) != (x2 : Int)) = true := by
          simp only [bne_iff_ne, ne_eq, Int.natCast_inj]; exact he
        have HN := Lib.hid hne
        clear hne he e1 e2
        go_wp2
        go_quiet (fail)
        go_wp2
        go_ret
        exact ⟨by rw [HN.out]; rfl, n + nq, by simp⟩
    · obtain rfl : j = l1.length := by omega
      go_wp2
      go_ret
      have : l1 = l2 := by
        have h := HQ.out
        rw [List.take_length] at h
        conv at h => rhs; rw [HL.out, List.take_length]
        exact h
      exact ⟨by rw [decide_eq_true this]; rfl, _, rfl⟩

set_option maxHeartbeats 400000 in
theorem equal_lens (A1 A2 : Option Addr) (n1 c1 n2 c2 : Nat) (w : World) (h : n1 ≠ n2) (hn1 : n1 ≤ 140737488355328) (hn2 : n2 ≤ 140737488355328) :
    Calls Try.prog 11 #[.slice A1 n1 c1, .slice A2 n2 c2] w (Same w (.bool false)) := by
  have hne : ((n1 : Int) != (n2 : Int)) = true := by simp only [bne_iff_ne, ne_eq, Int.natCast_inj]; exact h
  clear h
  go_enter Try.func11, Try.ntmps11
  go_wp2
  go_ret
  exact ⟨rfl, 0, rfl⟩
set_option maxHeartbeats 400000 in
theorem equal_none (A1 A2 : Option Addr) (c1 c2 : Nat) (w : World) :
    Calls Try.prog 11 #[.slice A1 0 c1, .slice A2 0 c2] w (Same w (.bool true)) := by
  go_enter Try.func11, Try.ntmps11
  go_wp2
  go_loop [5] (fun i => i = .int .i64 0) (fun _ => 0)
  case atStart => rfl
  case round =>
    obtain rfl := hrel
    go_wp2
    go_ret
    exact ⟨rfl, 0, rfl⟩
theorem equal_any (v1 v2 : Value) (l1 l2 : List UInt8) (w : World) (hn1 : l1.length ≤ 140737488355328) (hn2 : l2.length ≤ 140737488355328) (h1 : Byt w v1 l1) (h2 : Byt w v2 l2) :
    Calls Try.prog 11 #[v1, v2] w (Same w (.bool (decide (l1 = l2)))) := by
  have k1 : ∃ A c, v1 = .slice A l1.length c := by
    rcases h1 with ⟨h', A, c, h, _⟩ | ⟨b, o, c, h, _⟩
    · exact ⟨A, c, by rw [h, h']; rfl⟩
    · exact ⟨_, c, h⟩
  have k2 : ∃ A c, v2 = .slice A l2.length c := by
    rcases h2 with ⟨h', A, c, h, _⟩ | ⟨b, o, c, h, _⟩
    · exact ⟨A, c, by rw [h, h']; rfl⟩
    · exact ⟨_, c, h⟩
  obtain ⟨A1, c1, e1⟩ := k1
  obtain ⟨A2, c2, e2⟩ := k2
  by_cases hl : l1.length = l2.length
  · by_cases h0 : l1.length = 0
    · have g1 := List.eq_nil_of_length_eq_zero h0
      have g2 := List.eq_nil_of_length_eq_zero (hl ▸ h0)
      subst g1; subst g2; subst e1; subst e2
      exact equal_none A1 A2 c1 c2 w
    · rcases h1 with ⟨h', _⟩ | ⟨b, o, c, rfl, _, _, r1⟩
      · exact absurd (by rw [h']; rfl) h0
      · rcases h2 with ⟨h', _⟩ | ⟨b', o', c', rfl, _, _, r2⟩
        · exact absurd (by rw [hl, h']; rfl) h0
        · exact equal_some b o c b' o' c' l1 l2 w hn1 hl r1 r2
  · subst e1; subst e2
    have : decide (l1 = l2) = false := by
      simp only [decide_eq_false_iff_not]; intro h; exact hl (by rw [h])
    rw [this]
    exact equal_lens A1 A2 _ c1 _ c2 w hl hn1 hn2
/-! ### Get -/
set_option maxHeartbeats 400000 in
theorem rget_yes (b o c : Nat) (l : List UInt8) (a k : Nat) (w : World) (hn : l.length ≤ 140737488355328) (hlc : l.length ≤ c) (hc : RdB w b o l) (h1 : 1 ≤ k) (h8 : k ≤ 8) (hak : a + k ≤ l.length) :
    Calls Try.prog 13 #[.slice (some ⟨b, o, none⟩) l.length c, .int .i64 a, .int .i64 k] w fun e w' => e = .returned (.tuple #[.int .u64 (part l a k), .int .i64 0]) ∧ w = w' := by
  have HF := Lib.hid ((fitsB_iff l.length a k).2 (by omega))
  have hsub := hc.sub a k hak
  have hlen : ((l.drop a).take k).length = k := by simp; omega
  have hnum := rnum_some b (o + a) (c - a) ((l.drop a).take k) w (by omega) hsub
  rw [hlen] at hnum
  have HN := Lib.hid hnum
  clear hsub hlen hnum hc
  go_enter Try.func13, Try.ntmps13
  go_wp2_with (first
    | (go_at_call 14; refine (rfits_any _ _ _ _ _ _ (by omega)).mono ?_; rintro e w' ⟨rfl, rfl⟩; rw [HF.out])
    | (go_at_call 27; refine HN.out.mono ?_; rintro e w' ⟨rfl, rfl⟩))
  go_ret2
  exact ⟨rfl, rfl⟩

set_option maxHeartbeats 400000 in
theorem rget_no (A : Option Addr) (n c : Nat) (at_ width : Int) (w : World) (hn : n ≤ 140737488355328) (hf : fitsB n at_ width = false) :
    Calls Try.prog 13 #[.slice A n c, .int .i64 at_, .int .i64 width] w fun e w' => e = .returned (.tuple #[.int .u64 0, .int .i64 1]) ∧ w = w' := by
  have HF := Lib.hid hf; clear hf
  go_enter Try.func13, Try.ntmps13
  go_wp2_with (go_at_call 14; refine (rfits_any _ _ _ _ _ _ (by omega)).mono ?_; rintro e w' ⟨rfl, rfl⟩; rw [HF.out])
  go_ret2
  exact ⟨rfl, rfl⟩
theorem rget_any (v : Value) (l : List UInt8) (at_ width : Int) (w : World) (hn : l.length ≤ 140737488355328) (hv : Byt w v l) :
    Calls Try.prog 13 #[v, .int .i64 at_, .int .i64 width] w fun e w' => e = .returned (.tuple #[.int .u64 (getN l at_ width), .int .i64 (getE l.length at_ width)]) ∧ w = w' := by
  cases hf : fitsB l.length at_ width with
  | false =>
    have e1 : getN l at_ width = 0 := by simp [getN, hf]
    have e2 : getE l.length at_ width = 1 := by simp [getE, hf]
    rw [e1, e2]
    rcases hv with ⟨rfl, A, c, rfl, _, _⟩ | ⟨b, o, c, rfl, _, _, _⟩
    · exact rget_no A 0 c at_ width w (by simp) hf
    · exact rget_no _ _ c at_ width w hn hf
  | true =>
    obtain ⟨h1, h2, h3, h4⟩ := (fitsB_iff _ _ _).1 hf
    obtain ⟨a, rfl⟩ := Int.eq_ofNat_of_zero_le h3
    obtain ⟨k, rfl⟩ := Int.eq_ofNat_of_zero_le (show 0 ≤ width by omega)
    have e1 : getN l a k = part l a k := by simp [getN, hf]
    have e2 : getE l.length a k = 0 := by simp [getE, hf]
    rw [e1, e2]
    rcases hv with ⟨rfl, A, c, rfl, _, _⟩ | ⟨b, o, c, rfl, hlc, _, hr⟩
    · simp at h4; omega
    · exact rget_yes b o c l a k w hn hlc hr (by omega) (by omega) (by omega)
/-! ### Put -/
/-- What a function comes to that hands back bytes of its own and an error's number. -/
def RetB2 (E : TypeId) (w : World) (l : List UInt8) (n : Int) (e : Ending) (w' : World) : Prop := ∃ v, e = .returned (.tuple #[v, .int .i64 n]) ∧ w'.ownsRow w.heap.size E 1 v l.length (bvs l) ∧ Below w.heap.size w w'
theorem putOk_has (n : Nat) (at_ width : Int) (x : Nat) (hf : fitsB n at_ width = true) : hasB width x = putOk n at_ width x := by
  obtain ⟨h1, h2, _, _⟩ := (fitsB_iff _ _ _).1 hf
  unfold hasB putOk
  rw [hf, decide_eq_true (show 1 ≤ width ∧ width ≤ 8 from ⟨h1, h2⟩)]
set_option maxHeartbeats 400000 in
theorem rput_no (A : Option Addr) (n c : Nat) (at_ width : Int) (x : Nat) (w : World) (hn : n ≤ 140737488355328) (hx : x < 2 ^ 64) (hf : putOk n at_ width x = false) :
    Calls Try.prog 10 #[.slice A n c, .int .i64 at_, .int .i64 width, .int .u64 x] w fun e w' => e = .returned (.tuple #[.slice A n c, .int .i64 1]) ∧ w = w' := by
  cases hF : fitsB n at_ width with
  | false =>
    have HF := Lib.hid hF; clear hF hf hx
    go_enter Try.func10, Try.ntmps10
    go_wp2_with (go_at_call 14; refine (rfits_any _ _ _ _ _ _ (by omega)).mono ?_; rintro e w' ⟨rfl, rfl⟩; rw [HF.out])
    go_ret2
    exact ⟨rfl, rfl⟩
  | true =>
    rw [← putOk_has n at_ width x hF] at hf
    have HF := Lib.hid hF; clear hF
    have HH := Lib.hid hf; clear hf
    have HX := Lib.hid hx; clear hx
    go_enter Try.func10, Try.ntmps10
    go_wp2_with (first
      | (go_at_call 14; refine (rfits_any _ _ _ _ _ _ (by omega)).mono ?_; rintro e w' ⟨rfl, rfl⟩; rw [HF.out])
      | (go_at_call 25; refine (has_any _ _ _ HX.out).mono ?_; rintro e w' ⟨rfl, rfl⟩; rw [HH.out]))
    go_ret2
    exact ⟨rfl, rfl⟩
set_option maxHeartbeats 400000 in
theorem rput_yes (b o c : Nat) (l : List UInt8) (a k x : Nat) (w : World) (hn : l.length ≤ 140737488355328) (hlc : l.length ≤ c) (hcm : c ≤ maxLen) (hc : RdB w b o l) (hx : x < 2 ^ 64) (h1 : 1 ≤ k) (h8 : k ≤ 8) (hak : a + k ≤ l.length) (hxk : x < 256 ^ k) :
    Calls Try.prog 10 #[.slice (some ⟨b, o, none⟩) l.length c, .int .i64 a, .int .i64 k, .int .u64 x] w (RetB2 5 w (putL l a k x) 0) := by
  have hF := (fitsB_iff l.length a k).2 (by omega)
  have hH : hasB k x = true := by rw [putOk_has _ _ _ _ hF]; simp [putOk, hF, hxk]
  have HF := Lib.hid hF; clear hF
  have HH := Lib.hid hH; clear hH
  have HX := Lib.hid hx; clear hx hxk
  have hv1 := byt_take hc hlc hcm a (by omega)
  have hv2 := byt_drop hc hlc hcm (a + k) hak
  clear hc
  go_enter Try.func10, Try.ntmps10
  have hbel0 := (Below.refl w.heap.size w).alloc (Nat.le_refl _) (.cells #[] 5 (0, 0))
  have hown0 := World.ownsRow_made (base := w.heap.size) (e := 5) (size := 1) w #[] 0 (Nat.le_refl _) (by decide) rfl
  have hrd1 := hv1.rd.below hbel0
  go_wp2_with (first
      | (go_at_call 14; refine (rfits_any _ _ _ _ _ _ (by omega)).mono ?_; rintro e w' ⟨rfl, rfl⟩; rw [HF.out])
      | (go_at_call 25; refine (has_any _ _ _ HX.out).mono ?_; rintro e w' ⟨rfl, rfl⟩; rw [HH.out])
      | (at_builtin; refine wpList_append_rd _ rfl (.tmp 23) (.tmp 26) 22 rfl w.heap.size 5 (.int .u8 0) 1 1 Try.underlying22 infoU8 rfl (by decide) _ 0 [] rfl hown0 (.slice (some ⟨b, o, none⟩) a c) a (bvs (l.take a)) rfl ?c1 (bvs_oneCell _) ?c2 (by decide) ?c3 ?_; (case c1 => have := hrd1; simpa [Nat.min_eq_left (show a ≤ l.length by omega)] using this); (case c2 => omega); (case c3 => simp); intro v1 w1 hown1 hbel1 hg1; clear hrd1)
      | (go_at_call 26; refine (low_any x k _ HX.out h8).mono ?_; rintro e w2 ⟨v2, rfl, hown2, hbel2⟩; have hown1' := own_below hown1 hbel2; have hbel12 := (hbel0.trans hbel1).trans (hbel2.mono (Nat.le_trans (by simp) hbel1.size)); have hsz2 := hbel12.size; have hrd2 := own_rd hown2; rw [le_length] at hrd2; clear hown1 hown2 hbel2)
      | (at_builtin; refine wpList_append_rd _ rfl (.tmp 28) (.tmp 31) 22 rfl w.heap.size 5 (.int .u8 0) 1 1 Try.underlying22 infoU8 rfl (by decide) _ _ _ rfl hown1' _ k (bvs (le k x)) rfl hrd2 (bvs_oneCell _) ?c2 (by decide) hsz2 ?_; (case c2 => omega); intro v3 w3 hown3 hbel3 hg3; have hbel13 := hbel12.trans hbel3; have hsz3 := hbel13.size; have hrd3 := (hv2.below hbel13).rd; clear hrd2)
      | (at_builtin; refine wpList_append_rd _ rfl (.tmp 33) (.tmp 38) 22 rfl w.heap.size 5 (.int .u8 0) 1 1 Try.underlying22 infoU8 rfl (by decide) _ _ _ rfl hown3 (.slice (if c = a + k then some ⟨b, o, none⟩ else some ⟨b, o + (a + k), none⟩) (l.length - (a + k)) (c - (a + k))) (l.length - (a + k)) (bvs (l.drop (a + k))) rfl ?c1 (bvs_oneCell _) ?c2 (by decide) hsz3 ?_; (case c1 => simpa using hrd3); (case c2 => omega); intro v4 w4 hown4 hbel4 hg4))
  all_goals
    go_ret2
    refine ⟨_, rfl, ?_, hbel13.trans hbel4⟩
    rw [putL_length _ _ _ _ hak, putL, bvs_append, bvs_append]
    rw [show 0 + a + k + (l.length - (a + k)) = l.length by omega] at hown4
    simpa using hown4
end Go.Proofs.Ytdgmkjalnmpneaa
