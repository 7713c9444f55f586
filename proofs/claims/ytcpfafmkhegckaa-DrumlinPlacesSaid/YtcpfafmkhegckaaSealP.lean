/-
  Sealed sectors, plain.
-/
import Derived.Test.YtcpfafmkhegckaaCrc
import Derived.Test.YtcpfafmkhegckaaFull
namespace Go.Proofs.Ytcpfafmkhegckaa
open Go.RowKit
set_option linter.unusedVariables false
set_option linter.unusedSimpArgs false
/-- The bytes ahead of the sum. -/
def sealH (kind : UInt8) (body : List UInt8) : List UInt8 := [215, 76, kind, UInt8.ofNat body.length] ++ (body ++ List.replicate (120 - body.length) 0)
def sealS (kind : UInt8) (body : List UInt8) : List UInt8 := sealH kind body ++ le 4 (crc (sealH kind body))
theorem sealH_length (k : UInt8) (b : List UInt8) (h : b.length ≤ 120) : (sealH k b).length = 124 := by simp [sealH]; omega
theorem sealS_length (k : UInt8) (b : List UInt8) (h : b.length ≤ 120) : (sealS k b).length = 128 := by simp [sealS, sealH_length k b h]
def mayB (kind : UInt8) (body : List UInt8) : Bool := decide (kind ≠ 0 ∧ body.length ≤ 120)
theorem mayB_iff (k : UInt8) (b : List UInt8) : mayB k b = true ↔ (k ≠ 0 ∧ b.length ≤ 120) := by simp [mayB]
theorem mayB_not (k : UInt8) (b : List UInt8) : mayB k b = false ↔ (k = 0 ∨ 120 < b.length) := by
  unfold mayB; simp only [decide_eq_false_iff_not]
  by_cases h : k = 0
  · simp [h]
  · simp [h]
/-- What Make hands back. -/
def makeS (kind : UInt8) (body : List UInt8) : List UInt8 := if mayB kind body then sealS kind body else List.replicate 128 0
theorem makeS_length (k : UInt8) (b : List UInt8) : (makeS k b).length = 128 := by
  unfold makeS; split
  · rename_i h; exact sealS_length _ _ ((mayB_iff _ _).1 h).2
  · simp
/-- The body that a sector tells. -/
def bodyOf (l : List UInt8) : List UInt8 := (l.drop 4).take (l.getD 3 0).toNat
/-- What Open hands back. -/
def openB (l : List UInt8) : Bool := decide ((l.getD 3 0).toNat ≤ 120) && mayB (l.getD 2 0) (bodyOf l) && decide (sealS (l.getD 2 0) (bodyOf l) = l)
def openK (l : List UInt8) : UInt8 := if openB l then l.getD 2 0 else 0
def openL (l : List UInt8) : List UInt8 := if openB l then bodyOf l else []
def openE (l : List UInt8) : Int := if openB l then 0 else 21
def makeE (kind : UInt8) (body : List UInt8) : Int := if mayB kind body then 0 else 1
theorem seal_at2 (k : UInt8) (b : List UInt8) : (sealS k b).getD 2 0 = k := by simp [sealS, sealH]
theorem seal_at3 (k : UInt8) (b : List UInt8) : (sealS k b).getD 3 0 = UInt8.ofNat b.length := by simp [sealS, sealH]
theorem seal_at0 (k : UInt8) (b : List UInt8) : (sealS k b).getD 0 0 = 215 := by simp [sealS, sealH]
theorem bodyOf_seal (k : UInt8) (b : List UInt8) (h : b.length ≤ 120) : bodyOf (sealS k b) = b := by
  unfold bodyOf
  rw [seal_at3, show (UInt8.ofNat b.length).toNat = b.length by simp; omega]
  simp only [sealS, sealH, List.cons_append, List.nil_append, List.drop_succ_cons, List.drop_zero, List.append_assoc]
  rw [List.take_append_of_le_length (Nat.le_refl _), List.take_of_length_le (Nat.le_refl _)]
theorem open_seal (k : UInt8) (b : List UInt8) (h : mayB k b = true) : openB (sealS k b) = true := by
  have h' := (mayB_iff _ _).1 h
  unfold openB
  rw [bodyOf_seal k b h'.2, seal_at2, seal_at3, h, show (UInt8.ofNat b.length).toNat = b.length by simp; omega]
  simp [h'.2]
theorem open_body_len (l : List UInt8) (h : openB l = true) (hl : l.length = 128) : mayB (l.getD 2 0) (bodyOf l) = true ∧ sealS (l.getD 2 0) (bodyOf l) = l := by
  unfold openB at h
  simp only [Bool.and_eq_true, decide_eq_true_eq] at h
  exact ⟨h.1.2, h.2⟩
theorem le4_inj (a b : Nat) (ha : a < 4294967296) (hb : b < 4294967296) (h : le 4 a = le 4 b) : a = b := by
  rw [← leNat_le_of 4 a ha, ← leNat_le_of 4 b hb, h]
/-- Unlike kinds or bodies: unlike sectors. -/
theorem seal_inj (k k' : UInt8) (b b' : List UInt8) (h : b.length ≤ 120) (h' : b'.length ≤ 120) : sealS k b = sealS k' b' ↔ (k = k' ∧ b = b') := by
  constructor
  · intro e
    refine ⟨?_, ?_⟩
    · rw [← seal_at2 k b, e, seal_at2]
    · rw [← bodyOf_seal k b h, e, bodyOf_seal k' b' h']
  · rintro ⟨rfl, rfl⟩; rfl
/-- One byte turned: no sector. -/
theorem open_turned (k : UInt8) (b : List UInt8) (hm : mayB k b = true) (i : Nat) (hi : i < 128) (x : UInt8) (hx : (sealS k b).getD i 0 ≠ x) : openB ((sealS k b).set i x) = false := by
  obtain ⟨hk, hb⟩ := (mayB_iff _ _).1 hm
  have hH := sealH_length k b hb
  have hS := sealS_length k b hb
  cases ho : openB ((sealS k b).set i x) with
  | false => rfl
  | true =>
    exfalso
    obtain ⟨h1, h2⟩ := open_body_len _ ho (by simp [hS])
    obtain ⟨k', hk'⟩ : ∃ k', k' = ((sealS k b).set i x).getD 2 0 := ⟨_, rfl⟩
    obtain ⟨b', hb'⟩ : ∃ b', b' = bodyOf ((sealS k b).set i x) := ⟨_, rfl⟩
    rw [← hk', ← hb'] at h1 h2
    have hl' := ((mayB_iff _ _).1 h1).2
    have hH' := sealH_length k' b' hl'
    by_cases hlt : i < 124
    · -- ahead of the sum
      have e1 : (sealS k b).set i x = (sealH k b).set i x ++ le 4 (crc (sealH k b)) := by
        unfold sealS; rw [List.set_append_left _ _ (by omega)]
      rw [e1] at h2
      unfold sealS at h2
      obtain ⟨e2, e3⟩ := List.append_inj h2 (by simp [hH, hH'])
      have e4 := le4_inj _ _ (crc_lt _) (crc_lt _) e3
      rw [e2] at e4
      have e5 := crc_set (sealH k b) i x (by omega) e4
      apply hx
      rw [← e5]
      unfold sealS
      simp only [List.getD_eq_getElem?_getD]
      rw [List.getElem?_append_left (by omega)]
    · have e1 : (sealS k b).set i x = sealH k b ++ (le 4 (crc (sealH k b))).set (i - 124) x := by
        unfold sealS; rw [List.set_append_right _ _ (by omega), hH]
      rw [e1] at h2
      unfold sealS at h2
      obtain ⟨e2, e3⟩ := List.append_inj h2 (by simp [hH, hH'])
      rw [e2] at e3
      apply hx
      have e6 : (le 4 (crc (sealH k b))).getD (i - 124) 0 = x := by
        have := congrArg (fun q => q.getD (i - 124) 0) e3
        refine Eq.trans this ?_
        simp only [List.getD_eq_getElem?_getD]
        rw [List.getElem?_set_self (by simp; omega)]; rfl
      rw [← e6]
      unfold sealS
      simp only [List.getD_eq_getElem?_getD]
      rw [List.getElem?_append_right (by omega), hH]
end Go.Proofs.Ytcpfafmkhegckaa
