/-
  The contracts of numbers in bytes: package num's Put and Get, and the reference's; under the bounds that each names.
-/
import Derived.Test.YtcpfafmkhegckaaProg
import Derived.Test.YtcpfafmkhegckaaBase
namespace Go.Proofs.Ytcpfafmkhegckaa
open Go.RowKit

theorem infoU8 : (Try.prog.info? 5).map (fun i => (i.zero, i.size, i.bytes)) = some (some (.int .u8 0), 1, 1) := by kernel_rfl

/-! ### fits -/
def fitsB (n : Nat) (at_ width : Int) : Bool := decide (1 ≤ width ∧ width ≤ 8 ∧ 0 ≤ at_ ∧ at_ + width ≤ n)
theorem fitsB_iff (n : Nat) (at_ width : Int) : fitsB n at_ width = true ↔ (1 ≤ width ∧ width ≤ 8 ∧ 0 ≤ at_ ∧ at_ + width ≤ n) := by simp [fitsB]
set_option maxHeartbeats 400000 in
theorem fits_any (b : Option Addr) (n c : Nat) (at_ width : Int) (w : World) (hn : n ≤ 140737488355328) :
    Calls Try.prog 113 #[.slice b n c, .int .i64 at_, .int .i64 width] w fun e w' => e = .returned (.bool (fitsB n at_ width)) ∧ w = w' := by
  by_cases h1 : 1 ≤ width
  · by_cases h2 : width ≤ 8
    · by_cases h3 : 0 ≤ at_
      · by_cases h4 : at_ ≤ n
        · have h5 : decide (width ≤ (n : Int) - at_) = fitsB n at_ width := by
            unfold fitsB; congr 1; simp; omega
          have H5 := Lib.hid h5; clear h5
          go_enter Try.func113, Try.ntmps113
          go_wp2
          go_ret
          exact ⟨by simp [← H5.out], rfl⟩
        · have h5 : fitsB n at_ width = false := by unfold fitsB; simp; omega
          have H5 := Lib.hid h5; clear h5
          go_enter Try.func113, Try.ntmps113
          go_wp2
          go_ret
          exact ⟨by simp [H5.out], rfl⟩
      · have h5 : fitsB n at_ width = false := by unfold fitsB; simp; omega
        have H5 := Lib.hid h5; clear h5
        go_enter Try.func113, Try.ntmps113
        go_wp2
        go_ret
        exact ⟨by simp [H5.out], rfl⟩
    · have h5 : fitsB n at_ width = false := by unfold fitsB; simp; omega
      have H5 := Lib.hid h5; clear h5
      go_enter Try.func113, Try.ntmps113
      go_wp2
      go_ret
      exact ⟨by simp [H5.out], rfl⟩
  · have h5 : fitsB n at_ width = false := by unfold fitsB; simp; omega
    have H5 := Lib.hid h5; clear h5
    go_enter Try.func113, Try.ntmps113
    go_wp2
    go_ret
    exact ⟨by simp [H5.out], rfl⟩

/-! ### Get -/
theorem shl_byte (j x : Nat) (hj : j < 8) (hx : x < 256) : IntKind.u64.wrap (IntKind.u64.wrap (x : Int) * 2 ^ (8 * j)) = ((x * 2 ^ (8 * j) : Nat) : Int) := by
  have h1 : x * 2 ^ (8 * j) < 2 ^ 64 := by
    have : 2 ^ (8 * j) ≤ 2 ^ 56 := Nat.pow_le_pow_right (by decide) (by omega)
    calc x * 2 ^ (8 * j) ≤ 255 * 2 ^ 56 := Nat.mul_le_mul (by omega) this
      _ < 2 ^ 64 := by decide
  have e1 : IntKind.u64.wrap (x : Int) = (x : Int) := by simp [IntKind.wrap, IntKind.signed, IntKind.bits]; omega
  rw [e1]
  have e2 : ((x : Int) * 2 ^ (8 * j)) = ((x * 2 ^ (8 * j) : Nat) : Int) := by simp
  rw [e2]
  simp only [IntKind.wrap, IntKind.signed, IntKind.bits]
  simp
  omega

theorem get_step (l : List UInt8) (a j : Nat) (hj : j < 8) (h : a + j < l.length) :
    bits .or .u64 (part l a j : Int) (IntKind.u64.wrap (IntKind.u64.wrap ((l[a + j]?.getD 0).toNat : Int) * 2 ^ (8 * j))) = (part l a (j + 1) : Int) := by
  have hx : (l[a + j]?.getD 0).toNat < 256 := UInt8.toNat_lt _
  have hp := part_lt l a j
  rw [shl_byte j _ hj hx]
  have e : (256 : Nat) ^ j = 2 ^ (8 * j) := by rw [show (256 : Nat) = 2 ^ 8 by rfl, ← Nat.pow_mul]
  have h1 : 2 ^ (8 * j) ≤ 2 ^ 56 := Nat.pow_le_pow_right (by decide) (by omega)
  have h2 : (l[a + j]?.getD 0).toNat * 2 ^ (8 * j) ≤ 255 * 2 ^ 56 := Nat.mul_le_mul (by omega) h1
  rw [bits_or_u64_nat (part l a j) _ (by rw [e] at hp; omega) (by omega), or_add _ _ _ (by rw [← e]; exact hp), part_succ l a j h, e]
  simp
set_option maxHeartbeats 400000 in
theorem get_yes (b o c : Nat) (l : List UInt8) (a k : Nat) (w : World) (hn : l.length ≤ 140737488355328) (hc : RdB w b o l) (h1 : 1 ≤ k) (h8 : k ≤ 8) (hak : a + k ≤ l.length) :
    Calls Try.prog 60 #[.slice (some ⟨b, o, none⟩) l.length c, .int .i64 a, .int .i64 k] w fun e w' => e = .returned (.tuple #[.int .u64 (part l a k), .int .i64 0]) ∧ w = w' := by
  have HF := Lib.hid ((fitsB_iff l.length a k).2 (by omega))
  have HC := Lib.hid hc; clear hc
  go_enter Try.func60, Try.ntmps60
  go_wp2_with (go_at_call 113; refine (fits_any _ _ _ _ _ _ (by omega)).mono ?_; rintro e w' ⟨rfl, rfl⟩; rw [HF.out])
  go_loop [8, 16] (fun n i => ∃ j : Nat, j ≤ k ∧ i = .int .i64 j ∧ n = .int .u64 (part l a j)) (fun _ i => (k - (intOf i)).toNat)
  case atStart => exact ⟨0, by omega, by rfl, by simp [part_zero]⟩
  case round =>
    obtain ⟨j, hj, rfl, rfl⟩ := hrel
    by_cases hlt : j < k
    · have hcell := HC.out (a + j) (by omega)
      go_wp2
      go_round
      case rel => exact ⟨j + 1, by omega, by go_num, by rw [get_step l a j (by omega) (by omega)]⟩
      case measure => simp [intOf]; omega
    · go_wp2
      obtain rfl : j = k := by omega
      go_ret2
      exact ⟨rfl, rfl⟩
set_option maxHeartbeats 400000 in
theorem get_no (b : Option Addr) (n c : Nat) (at_ width : Int) (w : World) (hn : n ≤ 140737488355328) (hf : fitsB n at_ width = false) :
    Calls Try.prog 60 #[.slice b n c, .int .i64 at_, .int .i64 width] w fun e w' => e = .returned (.tuple #[.int .u64 0, .int .i64 1]) ∧ w = w' := by
  have HF := Lib.hid hf; clear hf
  go_enter Try.func60, Try.ntmps60
  go_wp2_with (go_at_call 113; refine (fits_any _ _ _ _ _ _ (by omega)).mono ?_; rintro e w' ⟨rfl, rfl⟩; rw [HF.out])
  go_ret2
  exact ⟨rfl, rfl⟩
/-- What Get answers. -/
def getN (l : List UInt8) (at_ width : Int) : Nat := if fitsB l.length at_ width then part l at_.toNat width.toNat else 0
def getE (n : Nat) (at_ width : Int) : Int := if fitsB n at_ width then 0 else 1
theorem get_any (v : Value) (l : List UInt8) (at_ width : Int) (w : World) (hn : l.length ≤ 140737488355328) (hv : Byt w v l) :
    Calls Try.prog 60 #[v, .int .i64 at_, .int .i64 width] w fun e w' => e = .returned (.tuple #[.int .u64 (getN l at_ width), .int .i64 (getE l.length at_ width)]) ∧ w = w' := by
  cases hf : fitsB l.length at_ width with
  | false =>
    have e1 : getN l at_ width = 0 := by simp [getN, hf]
    have e2 : getE l.length at_ width = 1 := by simp [getE, hf]
    rw [e1, e2]
    rcases hv with ⟨rfl, A, c, rfl, _, _⟩ | ⟨b, o, c, rfl, _, _, _⟩
    · exact get_no A 0 c at_ width w (by simp) hf
    · exact get_no _ _ c at_ width w hn hf
  | true =>
    obtain ⟨h1, h2, h3, h4⟩ := (fitsB_iff _ _ _).1 hf
    obtain ⟨a, rfl⟩ := Int.eq_ofNat_of_zero_le h3
    obtain ⟨k, rfl⟩ := Int.eq_ofNat_of_zero_le (show 0 ≤ width by omega)
    have e1 : getN l a k = part l a k := by simp [getN, hf]
    have e2 : getE l.length a k = 0 := by simp [getE, hf]
    rw [e1, e2]
    rcases hv with ⟨rfl, A, c, rfl, _, _⟩ | ⟨b, o, c, rfl, _, _, hr⟩
    · simp at h4; omega
    · exact get_yes b o c l a k w hn hr (by omega) (by omega) (by omega)

/-! ### Put -/
theorem put_byte (x j : Nat) : IntKind.u8.wrap ((x : Int) / 2 ^ (8 * j)) = ((UInt8.ofNat (x / 256 ^ j % 256)).toNat : Int) := by
  have e : (2 : Int) ^ (8 * j) = ((256 ^ j : Nat) : Int) := by
    rw [show (256 : Nat) = 2 ^ 8 by rfl, ← Nat.pow_mul]; simp
  rw [e, ← Int.natCast_ediv]
  simp [IntKind.wrap, IntKind.signed, IntKind.bits]

/-- A row's cells, some of them bytes written. -/
def written (cur : Array Value) (at_ : Nat) (l : List UInt8) : Array Value := (splice cur.toList at_ (bvs l)).toArray
theorem written_size (cur : Array Value) (at_ : Nat) (l : List UInt8) (h : at_ + l.length ≤ cur.size) : (written cur at_ l).size = cur.size := by
  unfold written; simp only [List.size_toArray]; rw [length_splice _ _ _ (by simpa using h)]; simp
theorem written_nil (cur : Array Value) (at_ : Nat) : written cur at_ [] = cur := by simp [written, bvs, splice_nil]
theorem written_snoc (cur : Array Value) (at_ : Nat) (l : List UInt8) (x : UInt8) (h : at_ + l.length < cur.size) : (written cur at_ l).setIfInBounds (at_ + l.length) (bval x) = written cur at_ (l ++ [x]) := by
  unfold written
  rw [List.setIfInBounds_toArray, bvs_append]
  have := splice_snoc cur.toList at_ (bvs l) (bval x) (by simpa using h)
  rw [bvs_length] at this
  rw [this]; rfl
theorem written_in (cur : Array Value) (at_ : Nat) (l : List UInt8) (h : at_ + l.length ≤ cur.size) (i : Nat) (hi : i < l.length) : (written cur at_ l)[at_ + i]? = some (.int .u8 ((l.getD i 0).toNat : Int)) := by
  unfold written
  rw [List.getElem?_toArray, splice_get_in _ _ _ (by simpa using h) i (by simpa using hi), bvs_get l i hi]
theorem written_out (cur : Array Value) (at_ : Nat) (l : List UInt8) (h : at_ + l.length ≤ cur.size) (i : Nat) (hi : i < at_ ∨ at_ + l.length ≤ i) : (written cur at_ l)[i]? = cur[i]? := by
  unfold written
  rw [List.getElem?_toArray, splice_get_out _ _ _ (by simpa using h) i (by simpa using hi)]
  simp
set_option maxHeartbeats 400000 in
theorem put_yes (g o n c : Nat) (cur : Array Value) (t : TypeId) (a k x : Nat) (w : World) (hg : w.heap[g]? = some (.cells cur t (0, 0))) (hon : o + n ≤ cur.size) (hn : n ≤ 140737488355328) (h1 : 1 ≤ k) (h8 : k ≤ 8) (hak : a + k ≤ n) (hx : x < 256 ^ k) :
    Calls Try.prog 107 #[.slice (some ⟨g, o, none⟩) n c, .int .i64 a, .int .i64 k, .int .u64 x] w fun e w' => e = .returned (.int .i64 0) ∧ w' = w.setRow g (written cur (o + a) (le k x)) := by
  have HF := Lib.hid ((fitsB_iff n a k).2 (by omega))
  have HG := Lib.hid hg; clear hg
  have hsh : k < 8 → (x : Int) / 2 ^ (8 * k) = 0 := fun h => by
    have e : (2 : Int) ^ (8 * k) = ((256 ^ k : Nat) : Int) := by rw [show (256 : Nat) = 2 ^ 8 by rfl, ← Nat.pow_mul]; simp
    rw [e, ← Int.natCast_ediv, Nat.div_eq_of_lt hx]; rfl
  have HX := Lib.hid hx; clear hx
  have hcut : ∀ (K : Prop), (k < 8 → (x : Int) / 2 ^ (8 * k) = 0 → K) → (¬ k < 8 → K) → K := fun K h h' => by
    by_cases h8 : k < 8
    · exact h h8 (hsh h8)
    · exact h' h8
  refine hcut _ (fun hlt he => ?_) (fun hge => ?_)
  all_goals
    clear hcut hsh
    go_enter Try.func107, Try.ntmps107
    go_wp2_with (go_at_call 113; refine (fits_any _ _ _ _ _ _ (by omega)).mono ?_; rintro e w' ⟨rfl, rfl⟩; rw [HF.out])
    try clear he
    go_loopw [27] (fun i wr => ∃ j : Nat, j ≤ k ∧ i = .int .i64 j ∧ Hid (wr = w.setRow g (written cur (o + a) (le j x)))) (fun i _ => (k - (intOf i)).toNat)
    case atStart => exact ⟨0, by omega, by rfl, by simp only [le, written_nil]; exact (setRow_self w g cur t _ HG.out).symm⟩
    case round =>
      obtain ⟨j, hj, rfl, HW⟩ := hrel
      by_cases hl : j < k
      · have hW := HW.out
        have hg' := setRow_heap w g cur (written cur (o + a) (le j x)) t _ HG.out
        rw [← hW] at hg'
        have hsz : (written cur (o + a) (le j x)).size = cur.size := written_size _ _ _ (by simp; omega)
        have hc1 : ∃ v, wr.cell? ⟨g, o + (a + j), none⟩ = some v := by
          rw [cell_row hg']
          exact ⟨_, Array.getElem?_eq_getElem (by omega)⟩
        have hc2 : wr.frozen? ⟨g, o + (a + j), none⟩ = false := free_row hg' _
        obtain ⟨v1, hc1⟩ := hc1
        have hstep : wr.setCell ⟨g, o + (a + j), none⟩ (.int .u8 (IntKind.u8.wrap ((x : Int) / 2 ^ (8 * j)))) = w.setRow g (written cur (o + a) (le (j + 1) x)) := by
          rw [setCell_row hg', hW, setRow_setRow, put_byte, le_snoc]
          have := written_snoc cur (o + a) (le j x) (UInt8.ofNat (x / 256 ^ j % 256)) (by simp; omega)
          rw [le_length, Nat.add_assoc] at this
          rw [← this]; rfl
        have HS := Lib.hid hstep
        clear hstep hg' hW hsz HW
        go_wp2
        go_roundw
        case rel => exact ⟨j + 1, by omega, by go_num, HS.out⟩
        case measure => simp [intOf]; omega
      · obtain rfl : j = k := by omega
        go_wp2
        go_ret
        exact ⟨rfl, HW.out⟩

def putOk (n : Nat) (at_ width : Int) (x : Nat) : Bool := fitsB n at_ width && decide (x < 256 ^ width.toNat)
set_option maxHeartbeats 400000 in
theorem put_no (b : Option Addr) (n c : Nat) (at_ width : Int) (x : Nat) (w : World) (hn : n ≤ 140737488355328) (hf : putOk n at_ width x = false) (hx : x < 2 ^ 64) :
    Calls Try.prog 107 #[.slice b n c, .int .i64 at_, .int .i64 width, .int .u64 x] w fun e w' => e = .returned (.int .i64 1) ∧ w = w' := by
  cases hF : fitsB n at_ width with
  | false =>
    have HF := Lib.hid hF; clear hF hf
    go_enter Try.func107, Try.ntmps107
    go_wp2_with (go_at_call 113; refine (fits_any _ _ _ _ _ _ (by omega)).mono ?_; rintro e w' ⟨rfl, rfl⟩; rw [HF.out])
    go_ret
    exact ⟨rfl, rfl⟩
  | true =>
    obtain ⟨h1, h2, h3, h4⟩ := (fitsB_iff _ _ _).1 hF
    obtain ⟨k, rfl⟩ := Int.eq_ofNat_of_zero_le (show 0 ≤ width by omega)
    simp only [putOk, hF, Bool.true_and, decide_eq_false_iff_not, Int.toNat_natCast, Nat.not_lt] at hf
    have hlt : k < 8 := by
      rcases Nat.lt_or_ge k 8 with h | h
      · exact h
      · have h8 : k = 8 := by omega
        subst h8
        exact absurd hf (by have : (256 : Nat) ^ 8 = 2 ^ 64 := by decide
                            omega)
    have hq : ((x : Int) / 2 ^ (8 * k) == 0) = false := by
      have e : (2 : Int) ^ (8 * k) = ((256 ^ k : Nat) : Int) := by rw [show (256 : Nat) = 2 ^ 8 by rfl, ← Nat.pow_mul]; simp
      rw [e, ← Int.natCast_ediv]
      have : 0 < x / 256 ^ k := Nat.div_pos hf (Nat.pow_pos (by decide))
      simp only [beq_eq_false_iff_ne]
      omega
    have hq2 : ((x : Int) / 2 ^ (8 * k) != 0) = true := by simp only [bne, hq]; rfl
    have HF := Lib.hid hF; clear hF hf
    clear hx
    go_enter Try.func107, Try.ntmps107
    go_wp2_with (go_at_call 113; refine (fits_any _ _ _ _ _ _ (by omega)).mono ?_; rintro e w' ⟨rfl, rfl⟩; rw [HF.out])
    go_ret
    exact ⟨rfl, rfl⟩

def putL (l : List UInt8) (a k x : Nat) : List UInt8 := l.take a ++ le k x ++ l.drop (a + k)
theorem putL_length (l : List UInt8) (a k x : Nat) (h : a + k ≤ l.length) : (putL l a k x).length = l.length := by simp [putL]; omega
def putR (l : List UInt8) (at_ width : Int) (x : Nat) : List UInt8 := if putOk l.length at_ width x then putL l at_.toNat width.toNat x else l
def putE (n : Nat) (at_ width : Int) (x : Nat) : Int := if putOk n at_ width x then 0 else 1
theorem putR_length (l : List UInt8) (at_ width : Int) (x : Nat) : (putR l at_ width x).length = l.length := by
  unfold putR
  split
  · rename_i h
    simp only [putOk, Bool.and_eq_true] at h
    obtain ⟨h1, h2, h3, h4⟩ := (fitsB_iff _ _ _).1 h.1
    exact putL_length _ _ _ _ (by omega)
  · rfl
/-- A number put into bytes of the call's own. -/
def PutOwn (E : TypeId) (w : World) (base : Nat) (v : Value) (l : List UInt8) (n : Int) (e : Ending) (w' : World) : Prop :=
  e = .returned (.int .i64 n) ∧ w'.ownsRow base E 1 v l.length (bvs l) ∧ w.grownBy w' v.ownBlock ∧ w'.heap.size = w.heap.size
theorem put_own (E : TypeId) (base : Nat) (v : Value) (l : List UInt8) (at_ width : Int) (x : Nat) (w : World) (hn : l.length ≤ 140737488355328) (hx : x < 2 ^ 64) (hown : w.ownsRow base E 1 v l.length (bvs l)) :
    Calls Try.prog 107 #[v, .int .i64 at_, .int .i64 width, .int .u64 x] w (PutOwn E w base v (putR l at_ width x) (putE l.length at_ width x)) := by
  have hsl : ∃ A c, v = .slice A l.length c := by
    rcases hown.2 with ⟨h1, h2⟩ | ⟨g, cap, cur, h1, _⟩
    · exact ⟨none, 0, by rw [h1, h2]⟩
    · exact ⟨_, cap, h1⟩
  cases hp : putOk l.length at_ width x with
  | false =>
    have e1 : putR l at_ width x = l := by simp [putR, hp]
    have e2 : putE l.length at_ width x = 1 := by simp [putE, hp]
    rw [e1, e2]
    obtain ⟨A, c, rfl⟩ := hsl
    refine (put_no A l.length c at_ width x w hn hp hx).mono fun e w' ⟨h1, h2⟩ => ?_
    subst h2
    exact ⟨h1, hown, World.grownBy.refl _ _, rfl⟩
  | true =>
    have e1 : putR l at_ width x = putL l at_.toNat width.toNat x := by simp [putR, hp]
    have e2 : putE l.length at_ width x = 0 := by simp [putE, hp]
    rw [e1, e2]
    simp only [putOk, Bool.and_eq_true, decide_eq_true_eq] at hp
    obtain ⟨h1, h2, h3, h4⟩ := (fitsB_iff _ _ _).1 hp.1
    obtain ⟨a, rfl⟩ := Int.eq_ofNat_of_zero_le h3
    obtain ⟨k, rfl⟩ := Int.eq_ofNat_of_zero_le (show 0 ≤ width by omega)
    simp only [Int.toNat_natCast] at hp ⊢
    rcases hown.2 with ⟨h5, h6⟩ | ⟨g, cap, cur, rfl, hb, hg, hle, hmax, hsz, htk⟩
    · omega
    · refine (put_yes g 0 l.length cap cur E a k x w hg (by omega) hn (by omega) (by omega) (by omega) hp.2).mono fun e w' ⟨h5, h6⟩ => ?_
      subst h6
      rw [Nat.zero_add]
      have hg' := setRow_heap w g cur (written cur a (le k x)) E _ hg
      refine ⟨h5, ?_, ⟨rfl, rfl, rfl, by simp, fun k' hk' hne => setRow_other w g k' _ (fun e => hne (by rw [e]; rfl))⟩, by simp⟩
      refine ⟨by simp, .inr ⟨g, cap, _, ?_, hb, hg', ?_, hmax, ?_, ?_⟩⟩
      · rw [putL_length _ _ _ _ (by omega)]
      · rw [putL_length _ _ _ _ (by omega)]; exact hle
      · rw [written_size _ _ _ (by simp; omega)]; exact hsz
      · rw [putL_length _ _ _ _ (by omega)]
        apply List.ext_getElem?
        intro i
        rw [List.getElem?_take]
        by_cases hi : i < l.length * 1
        · rw [if_pos hi]
          have hcur : ∀ j, j < l.length → cur.toList[j]? = (bvs l)[j]? := fun j hj => by
            rw [← htk, List.getElem?_take_of_lt (by omega)]
          unfold written
          simp only []
          unfold putL
          rw [bvs_append, bvs_append, List.append_assoc]
          by_cases c1 : i < a
          · rw [splice_get_out _ _ _ (by simp; omega) _ (.inl c1), hcur i (by omega), List.getElem?_append_left (by simp; omega)]
            simp [bvs, List.getElem?_take_of_lt c1]
          · by_cases c2 : i < a + k
            · obtain ⟨j, rfl⟩ : ∃ j, i = a + j := ⟨i - a, by omega⟩
              rw [splice_get_in _ _ _ (by simp; omega) _ (by simp; omega), List.getElem?_append_right (by simp; omega), List.getElem?_append_left (by simp; omega)]
              congr 1; simp; omega
            · rw [splice_get_out _ _ _ (by simp; omega) _ (.inr (by simp; omega)), hcur i (by omega), List.getElem?_append_right (by simp; omega), List.getElem?_append_right (by simp; omega)]
              simp only [bvs, List.map_drop, List.getElem?_drop, List.length_map, List.length_take, le_length]
              congr 1; omega
        · rw [if_neg hi, List.getElem?_eq_none]
          rw [bvs_length, putL_length _ _ _ _ (by omega)]; omega

/-! ### The reference -/
def hasB (width : Int) (x : Nat) : Bool := decide (1 ≤ width ∧ width ≤ 8) && decide (x < 256 ^ width.toNat)
theorem hasB_yes (k x : Nat) (h1 : 1 ≤ k) (h8 : k ≤ 8) : hasB k x = ((((x / 256 ^ k : Nat) : Int)) == 0) := by
  unfold hasB
  have hv : decide (1 ≤ (k : Int) ∧ (k : Int) ≤ 8) = true := by simp only [decide_eq_true_eq]; omega
  rw [hv, Bool.true_and, Int.toNat_natCast, Bool.eq_iff_iff, decide_eq_true_eq, beq_iff_eq, Int.natCast_eq_zero, Nat.div_eq_zero_iff_lt (Nat.pow_pos (by decide))]
theorem hasB_no (width : Int) (x : Nat) (h : ¬ (1 ≤ width ∧ width ≤ 8)) : hasB width x = false := by
  unfold hasB; rw [decide_eq_false h, Bool.false_and]
end Go.Proofs.Ytcpfafmkhegckaa
