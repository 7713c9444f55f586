/-
  What is written is read back, plain; blocks of entries compared.
-/
import Derived.Test.YtcgfhpgjaibmhaaDirJ
namespace Go.Proofs.Ytcgfhpgjaibmhaa
open Go.RowKit
set_option linter.unusedVariables false
set_option linter.unusedSimpArgs false
theorem ent_back (l r : List UInt8) (a k : Nat) (s : ByteArray) (h : l.drop a = entB k s ++ r) (hk : k ≤ 200) (hs : s.size ≤ 26) :
    part l a 2 = k ∧ l.getD (a + 2) 0 = UInt8.ofNat s.size ∧ (l.drop (a + 3)).take s.size = s.data.toList := by
  have hl : s.data.toList.length = s.size := by simp
  have hle : (le 2 k).length = 2 := le_length 2 k
  obtain ⟨x, y, hxy⟩ : ∃ x y, le 2 k = [x, y] := by
    match h2 : le 2 k, hle with
    | [x, y], _ => exact ⟨x, y, rfl⟩
  refine ⟨?_, ?_, ?_⟩
  · unfold part
    rw [h]
    unfold entB
    rw [List.append_assoc, List.append_assoc, List.take_append_of_le_length (by omega), List.take_of_length_le (by omega)]
    exact leNat_le_of 2 k (by omega)
  · have : l.getD (a + 2) 0 = (l.drop a).getD 2 0 := by simp [List.getD_eq_getElem?_getD, List.getElem?_drop]
    rw [this, h]
    unfold entB
    rw [hxy]
    rfl
  · rw [← List.drop_drop, h]
    unfold entB
    rw [hxy]
    simp only [List.cons_append, List.nil_append, List.drop_succ_cons, List.drop_zero, List.append_assoc]
    rw [List.take_append_of_le_length (by omega), List.take_of_length_le (by omega)]
theorem ba_eta (s : ByteArray) : (⟨s.data.toList.toArray⟩ : ByteArray) = s := by cases s; simp
theorem ents_at (E : List Ent) (h : entsOk E = true) (j : Nat) (hj : j < 4) : ∃ r, (entsB E 4).drop (32 * j) = entBs (eAt E j) ++ r := by
  have hlen : ∀ i, i ≤ 4 → (entsB E i).length = 32 * i := fun i hi => ents_len E i hi (fun q hq => entsOk_at h q (by omega))
  have hs : ∃ r, entsB E 4 = entsB E j ++ (entBs (eAt E j) ++ r) := by
    match j, hj with
    | 0, _ => exact ⟨entBs (eAt E 1) ++ (entBs (eAt E 2) ++ entBs (eAt E 3)), by simp only [entsB, eAt, List.append_assoc]⟩
    | 1, _ => exact ⟨entBs (eAt E 2) ++ entBs (eAt E 3), by simp only [entsB, eAt, List.append_assoc]⟩
    | 2, _ => exact ⟨entBs (eAt E 3), by simp only [entsB, eAt, List.append_assoc]⟩
    | 3, _ => exact ⟨[], by simp only [entsB, eAt, List.append_assoc, List.append_nil]⟩
  obtain ⟨r, hr⟩ := hs
  exact ⟨r, by rw [hr, ← hlen j (by omega)]; simp⟩
theorem back_at (E : List Ent) (h : entsOk E = true) (j : Nat) (hj : j < 4) : ((dmE (entsB E 4) j : Nat) : Int) = (eAt E j).1 ∧ dtE (entsB E 4) j = (eAt E j).2 ∧ dzE (entsB E 4) j ≤ 29 := by
  obtain ⟨r, hr⟩ := ents_at E h j hj
  obtain ⟨k, hk, hk2, hs⟩ := may_bounds (entsOk_at h j hj)
  have he : entBs (eAt E j) = entB k (eAt E j).2 := by unfold entBs; rw [hk]; rfl
  rw [he] at hr
  obtain ⟨h1, h2, h3⟩ := ent_back _ _ _ _ _ hr hk2 hs
  have hz : dzE (entsB E 4) j = (eAt E j).2.size := by unfold dzE; rw [h2]; simp [Nat.mod_eq_of_lt (show (eAt E j).2.size < 256 by omega)]
  refine ⟨?_, ?_, by omega⟩
  · unfold dmE; rw [h1, hk]
  · unfold dtE; rw [hz, h3]
theorem write_back (n0 n1 n2 n3 : Int) (s0 s1 s2 s3 : ByteArray) (h : entsOk (entsL n0 n1 n2 n3 s0 s1 s2 s3) = true) :
    drB (entsB (entsL n0 n1 n2 n3 s0 s1 s2 s3) 4) = true ∧ drV (entsB (entsL n0 n1 n2 n3 s0 s1 s2 s3) 4) = entsV (n0, s0) (n1, s1) (n2, s2) (n3, s3) := by
  obtain ⟨a0, b0, c0⟩ := back_at _ h 0 (by decide)
  obtain ⟨a1, b1, c1⟩ := back_at _ h 1 (by decide)
  obtain ⟨a2, b2, c2⟩ := back_at _ h 2 (by decide)
  obtain ⟨a3, b3, c3⟩ := back_at _ h 3 (by decide)
  obtain ⟨l, hl⟩ : ∃ l, l = entsB (entsL n0 n1 n2 n3 s0 s1 s2 s3) 4 := ⟨_, rfl⟩
  rw [← hl] at a0 b0 c0 a1 b1 c1 a2 b2 c2 a3 b3 c3 ⊢
  have hes : rdEs l = entsL n0 n1 n2 n3 s0 s1 s2 s3 := by
    unfold rdEs
    rw [a0, a1, a2, a3, b0, b1, b2, b3]; rfl
  have hd : drB l = true := by
    unfold drB rdSz
    rw [decide_eq_true ⟨c0, c1, c2, c3⟩, hes, h, ← hl]; simp
  refine ⟨hd, ?_⟩
  unfold drV drL
  rw [hd, if_pos rfl, hes]; rfl
end Go.Proofs.Ytcgfhpgjaibmhaa
