/-
  CRC-32: plain, and the two functions that compute it.
-/
import Derived.Test.YtcpfafmkhegckaaProg
import Derived.Test.YtcpfafmkhegckaaBase
import Derived.Laws.Bits64b
namespace Go.Proofs.Ytcpfafmkhegckaa
open Go.RowKit
set_option linter.unusedVariables false
set_option linter.unusedSimpArgs false

/-! ### bits of short numbers -/
theorem wrap_u32 (n : Int) : IntKind.u32.wrap n = n % 4294967296 := by simp [IntKind.wrap, IntKind.bits, IntKind.signed]
theorem wrap_u8 (n : Int) : IntKind.u8.wrap n = n % 256 := by simp [IntKind.wrap, IntKind.bits, IntKind.signed]
theorem bits_xor_u32_nat (a b : Nat) (ha : a < 4294967296) (hb : b < 4294967296) : bits .xor .u32 (a : Int) (b : Int) = ((a ^^^ b : Nat) : Int) := by
  have hx : a ^^^ b < 2 ^ 32 := Nat.xor_lt_two_pow (by omega) (by omega)
  have h1 : (BitVec.ofInt 32 (a : Int)).toNat = a := by rw [BitVec.ofInt_natCast, BitVec.toNat_ofNat]; exact Nat.mod_eq_of_lt (by omega)
  have h2 : (BitVec.ofInt 32 (b : Int)).toNat = b := by rw [BitVec.ofInt_natCast, BitVec.toNat_ofNat]; exact Nat.mod_eq_of_lt (by omega)
  show IntKind.u32.wrap ((BitVec.ofInt 32 (a : Int) ^^^ BitVec.ofInt 32 (b : Int)).toNat : Int) = _
  rw [BitVec.toNat_xor, h1, h2, wrap_u32]; omega
theorem bits_and_u32_nat (a b : Nat) (ha : a < 4294967296) (hb : b < 4294967296) : bits .and .u32 (a : Int) (b : Int) = ((a &&& b : Nat) : Int) := by
  have hx : a &&& b < 2 ^ 32 := Nat.and_lt_two_pow _ (by omega)
  have h1 : (BitVec.ofInt 32 (a : Int)).toNat = a := by rw [BitVec.ofInt_natCast, BitVec.toNat_ofNat]; exact Nat.mod_eq_of_lt (by omega)
  have h2 : (BitVec.ofInt 32 (b : Int)).toNat = b := by rw [BitVec.ofInt_natCast, BitVec.toNat_ofNat]; exact Nat.mod_eq_of_lt (by omega)
  show IntKind.u32.wrap ((BitVec.ofInt 32 (a : Int) &&& BitVec.ofInt 32 (b : Int)).toNat : Int) = _
  rw [BitVec.toNat_and, h1, h2, wrap_u32]; omega
theorem bits_or_u8_nat (a b : Nat) (ha : a < 256) (hb : b < 256) : bits .or .u8 (a : Int) (b : Int) = ((a ||| b : Nat) : Int) := by
  have hx : a ||| b < 2 ^ 8 := Nat.or_lt_two_pow (by omega) (by omega)
  have h1 : (BitVec.ofInt 8 (a : Int)).toNat = a := by rw [BitVec.ofInt_natCast, BitVec.toNat_ofNat]; exact Nat.mod_eq_of_lt (by omega)
  have h2 : (BitVec.ofInt 8 (b : Int)).toNat = b := by rw [BitVec.ofInt_natCast, BitVec.toNat_ofNat]; exact Nat.mod_eq_of_lt (by omega)
  show IntKind.u8.wrap ((BitVec.ofInt 8 (a : Int) ||| BitVec.ofInt 8 (b : Int)).toNat : Int) = _
  rw [BitVec.toNat_or, h1, h2, wrap_u8]; omega

/-! ### the sum, plain -/
def crcBit (c : Nat) : Nat := if c % 2 = 1 then c / 2 ^^^ 3988292384 else c / 2
def crcBits : Nat → Nat → Nat
  | 0, c => c
  | k + 1, c => crcBit (crcBits k c)
def crcByte (c : Nat) (x : UInt8) : Nat := crcBits 8 (c ^^^ x.toNat)
def crcAll (l : List UInt8) : Nat := l.foldl crcByte 4294967295
def crc (l : List UInt8) : Nat := 4294967295 - crcAll l
theorem crcBit_lt {c : Nat} (h : c < 4294967296) : crcBit c < 4294967296 := by
  unfold crcBit
  split
  · have : c / 2 ^^^ 3988292384 < 2 ^ 32 := Nat.xor_lt_two_pow (by omega) (by decide)
    omega
  · omega
theorem crcBits_lt {c : Nat} (k : Nat) (h : c < 4294967296) : crcBits k c < 4294967296 := by
  induction k with
  | zero => exact h
  | succ k ih => exact crcBit_lt ih
theorem xor_byte_lt {c : Nat} (x : UInt8) (h : c < 4294967296) : c ^^^ x.toNat < 4294967296 := by
  have hx := x.toNat_lt
  have : c ^^^ x.toNat < 2 ^ 32 := Nat.xor_lt_two_pow (by omega) (by omega)
  omega
theorem crcByte_lt {c : Nat} (x : UInt8) (h : c < 4294967296) : crcByte c x < 4294967296 := crcBits_lt 8 (xor_byte_lt x h)
theorem crcFold_lt (l : List UInt8) : ∀ c, c < 4294967296 → l.foldl crcByte c < 4294967296 := by
  induction l with
  | nil => exact fun c h => h
  | cons x r ih => exact fun c h => ih _ (crcByte_lt x h)
theorem crcAll_lt (l : List UInt8) : crcAll l < 4294967296 := crcFold_lt l _ (by decide)
theorem crc_lt (l : List UInt8) : crc l < 4294967296 := by unfold crc; omega
theorem crcAll_take (l : List UInt8) (j : Nat) (h : j < l.length) : crcAll (l.take (j + 1)) = crcByte (crcAll (l.take j)) (l.getD j 0) := by
  rw [List.take_succ_eq_append_getElem h]
  unfold crcAll
  rw [List.foldl_append, List.getD_eq_getElem?_getD, List.getElem?_eq_getElem h]
  rfl
theorem xor_cut {a b p : Nat} (h : a ^^^ p = b ^^^ p) : a = b := by
  have := congrArg (· ^^^ p) h
  simpa [Nat.xor_assoc] using this
theorem xor_cut' {a b p : Nat} (h : p ^^^ a = p ^^^ b) : a = b := xor_cut (p := p) (by rw [Nat.xor_comm a, Nat.xor_comm b]; exact h)
theorem crcBit_inj {a b : Nat} (ha : a < 4294967296) (hb : b < 4294967296) (h : crcBit a = crcBit b) : a = b := by
  have top : ∀ x : Nat, x < 2 ^ 31 → (x ^^^ 3988292384).testBit 31 = true := fun x hx => by
    rw [Nat.testBit_xor, Nat.testBit_lt_two_pow hx]; decide
  unfold crcBit at h
  have ha2 : a / 2 < 2 ^ 31 := by omega
  have hb2 : b / 2 < 2 ^ 31 := by omega
  split at h <;> split at h
  · have := xor_cut h
    omega
  · have h1 := top _ ha2
    rw [h, Nat.testBit_lt_two_pow hb2] at h1; cases h1
  · have h1 := top _ hb2
    rw [← h, Nat.testBit_lt_two_pow ha2] at h1; cases h1
  · omega
theorem crcBits_inj (k : Nat) {a b : Nat} (ha : a < 4294967296) (hb : b < 4294967296) (h : crcBits k a = crcBits k b) : a = b := by
  induction k with
  | zero => exact h
  | succ k ih => exact ih (crcBit_inj (crcBits_lt k ha) (crcBits_lt k hb) h)
theorem crcByte_inj {a b : Nat} (x : UInt8) (ha : a < 4294967296) (hb : b < 4294967296) (h : crcByte a x = crcByte b x) : a = b :=
  xor_cut (crcBits_inj 8 (xor_byte_lt x ha) (xor_byte_lt x hb) h)
theorem crcByte_inj' {c : Nat} (x y : UInt8) (hc : c < 4294967296) (h : crcByte c x = crcByte c y) : x = y :=
  UInt8.toNat_inj.1 (xor_cut' (crcBits_inj 8 (xor_byte_lt x hc) (xor_byte_lt y hc) h))
theorem crcFold_inj (l : List UInt8) : ∀ a b, a < 4294967296 → b < 4294967296 → l.foldl crcByte a = l.foldl crcByte b → a = b := by
  induction l with
  | nil => exact fun a b _ _ h => h
  | cons x r ih => exact fun a b ha hb h => crcByte_inj x ha hb (ih _ _ (crcByte_lt x ha) (crcByte_lt x hb) h)
/-- One byte turned: another sum. -/
theorem crc_set (l : List UInt8) (i : Nat) (x : UInt8) (hi : i < l.length) (h : crc (l.set i x) = crc l) : l.getD i 0 = x := by
  have h1 := crcAll_lt (l.set i x)
  have h2 := crcAll_lt l
  have h3 : crcAll (l.set i x) = crcAll l := by unfold crc at h; omega
  have e1 : l.set i x = l.take i ++ x :: l.drop (i + 1) := List.set_eq_take_append_cons_drop.trans (if_pos hi)
  have e2 : l = l.take i ++ l[i] :: l.drop (i + 1) := by rw [List.getElem_cons_drop hi, List.take_append_drop]
  have h4 : crcAll (l.take i ++ x :: l.drop (i + 1)) = crcAll (l.take i ++ l[i] :: l.drop (i + 1)) := by rw [← e1, ← e2]; exact h3
  unfold crcAll at h4
  rw [List.foldl_append, List.foldl_append, List.foldl_cons, List.foldl_cons] at h4
  have hc := crcFold_lt (l.take i) 4294967295 (by decide)
  have h5 := crcFold_inj _ _ _ (crcByte_lt _ hc) (crcByte_lt _ hc) h4
  have h6 := crcByte_inj' _ _ hc h5
  simp [List.getElem?_eq_getElem hi, h6]

/-! ### the walks -/
theorem crc_mod (c : Nat) (h : c < 4294967296) : bits .and .u32 (c : Int) 1 = ((c % 2 : Nat) : Int) := by
  have := bits_and_u32_nat c 1 h (by decide)
  rw [show ((1 : Nat) : Int) = 1 from rfl, Nat.and_one_is_mod] at this
  exact this
theorem crc_xor (c : Nat) (h : c < 4294967296) : bits .xor .u32 ((c : Int) / 2) 3988292384 = ((c / 2 ^^^ 3988292384 : Nat) : Int) := by
  have := bits_xor_u32_nat (c / 2) 3988292384 (by omega) (by decide)
  rw [Int.natCast_ediv] at this
  exact this
theorem crc_in (c : Nat) (x : Nat) (h : c < 4294967296) (hx : x < 256) : bits .xor .u32 (c : Int) ((x : Int) % 4294967296) = ((c ^^^ x : Nat) : Int) := by
  have e : (x : Int) % 4294967296 = (x : Int) := by omega
  rw [e]; exact bits_xor_u32_nat c x h (by omega)
theorem not_u32 (c : Nat) (h : c < 4294967296) : 4294967295 ^^^ c = 4294967295 - c := by
  apply Nat.eq_of_testBit_eq
  intro i
  have h1 := Nat.testBit_two_pow_sub_succ (n := 32) (x := c) (by omega) i
  rw [show (2 : Nat) ^ 32 - (c + 1) = 4294967295 - c by omega] at h1
  rw [h1, Nat.testBit_xor, show (4294967295 : Nat) = 2 ^ 32 - 1 by decide, Nat.testBit_two_pow_sub_one]
  by_cases hi : i < 32
  · simp [hi]
  · simp only [hi, decide_false, Bool.false_and, Bool.false_bne]
    exact Nat.testBit_lt_two_pow (Nat.lt_of_lt_of_le (show c < 2 ^ 32 by omega) (Nat.pow_le_pow_right (by decide) (by omega)))
theorem crc_not (c : Nat) (h : c < 4294967296) : bits .xor .u32 IntKind.u32.max (c : Int) = ((4294967295 - c : Nat) : Int) := by
  have := bits_xor_u32_nat 4294967295 c (by decide) h
  rw [not_u32 c h] at this
  exact this
set_option maxHeartbeats 1000000 in
theorem crc_some (b o c : Nat) (l : List UInt8) (w : World) (hn : l.length ≤ 140737488355328) (hr : RdB w b o l) :
    Calls Try.prog 108 #[.slice (some ⟨b, o, none⟩) l.length c] w fun e w' => e = .returned (.int .u32 (crc l)) ∧ w = w' := by
  have HR := Lib.hid hr; clear hr
  have HN := Lib.hid hn; clear hn
  go_enter Try.func108, Try.ntmps108
  go_wp2
  go_loop [3, 5, 6, 9, 17] (fun s x y i k => ∃ j : Nat, j ≤ l.length ∧ i = .int .i64 j ∧ s = .int .u32 (crcAll (l.take j) : Nat)) (fun _ _ _ i _ => (l.length - intOf i).toNat)
  case atStart => exact ⟨0, by omega, by rfl, by simp [crcAll]⟩
  case round =>
    obtain ⟨j, hj, rfl, rfl⟩ := hrel
    by_cases hlt : j < l.length
    · obtain ⟨x, hx⟩ : ∃ x, x = l.getD j 0 := ⟨_, rfl⟩
      have hcell := HR.out j hlt
      have hnext := crcAll_take l j hlt
      have hc0 := crcAll_lt (l.take j)
      rw [← hx] at hcell hnext
      obtain ⟨c0, hc⟩ : ∃ c0, c0 = crcAll (l.take j) := ⟨_, rfl⟩
      rw [← hc] at hnext hc0 ⊢
      have hin := crc_in c0 x.toNat hc0 x.toNat_lt
      have hlt1 := xor_byte_lt x hc0
      have HI := Lib.hid hin
      have HL1 := Lib.hid hlt1
      have HNX := Lib.hid hnext
      clear hin hlt1 hnext hc0 hx hc
      go_wp2
      rw [HI.out]
      go_loop [3, 6, 17] (fun s y k => ∃ q : Nat, q ≤ 8 ∧ k = .int .i64 q ∧ s = .int .u32 (crcBits q (c0 ^^^ x.toNat) : Nat)) (fun _ _ k => (8 - intOf k).toNat)
      case atStart => exact ⟨0, by omega, by rfl, by rfl⟩
      case round =>
        obtain ⟨q, hq, rfl, rfl⟩ := hrel
        by_cases hq8 : q < 8
        · have hcq := crcBits_lt q HL1.out
          obtain ⟨d, hd⟩ : ∃ d, d = crcBits q (c0 ^^^ x.toNat) := ⟨_, rfl⟩
          have hdn : crcBits (q + 1) (c0 ^^^ x.toNat) = crcBit d := by rw [hd]; rfl
          rw [← hd] at hcq ⊢
          have hmod := crc_mod d hcq
          have hxor := crc_xor d hcq
          have HM := Lib.hid hmod
          have HX := Lib.hid hxor
          have HDN := Lib.hid hdn
          have HCQ := Lib.hid hcq
          clear hmod hxor hdn hd hcq
          go_wp2
          · rename_i hodd
            rw [HM.out] at hodd
            refine ⟨⟨q + 1, by omega, by go_num, ?_⟩, by simp [intOf]; omega⟩
            have h1 : d % 2 = 1 := by simp at hodd; omega
            rw [HDN.out, HX.out]
            unfold crcBit
            rw [if_pos h1]
          · rename_i hodd
            rw [HM.out] at hodd
            refine ⟨⟨q + 1, by omega, by go_num, ?_⟩, by simp [intOf]; omega⟩
            have h1 : ¬ d % 2 = 1 := by simp at hodd; omega
            rw [HDN.out]
            unfold crcBit
            rw [if_neg h1]
            simp
        · go_wp2
          obtain rfl : q = 8 := by omega
          have hn := HN.out
          have hwj : wrap64 ((j : Int) + 1) = ((j + 1 : Nat) : Int) := by rw [← i64_w, Int.natCast_add]; exact IntWalk.i64_in _ (by omega)
          rw [hwj]
          refine ⟨⟨j + 1, by omega, rfl, ?_⟩, by simp [intOf]; omega⟩
          rw [HNX.out]; rfl
    · go_wp2
      obtain rfl : j = l.length := by omega
      go_ret
      refine ⟨?_, rfl⟩
      rw [List.take_length, crc_not _ (crcAll_lt l)]; rfl
theorem crc_any (v : Value) (l : List UInt8) (w : World) (hn : l.length ≤ 140737488355328) (hv : Byt w v l) :
    Calls Try.prog 108 #[v] w fun e w' => e = .returned (.int .u32 (crc l)) ∧ w = w' := by
  rcases hv with ⟨rfl, A, c, rfl, _⟩ | ⟨b, o, c, rfl, _, _, hr⟩
  · go_enter Try.func108, Try.ntmps108
    go_wp2
    go_loop [3, 5, 6, 9, 17] (fun s x y i k => i = .int .i64 0 ∧ s = .int .u32 4294967295) (fun _ _ _ i _ => 0)
    case atStart => exact ⟨rfl, rfl⟩
    case round =>
      obtain ⟨rfl, rfl⟩ := hrel
      go_wp2
      go_ret
      exact ⟨by rfl, rfl⟩
  · exact crc_some b o c l w hn hr
end Go.Proofs.Ytcpfafmkhegckaa
