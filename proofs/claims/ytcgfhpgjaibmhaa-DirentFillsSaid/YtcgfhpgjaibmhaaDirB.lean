/-
  Names of entries: the reference.
-/
import Derived.Test.YtcgfhpgjaibmhaaDirA
namespace Go.Proofs.Ytcgfhpgjaibmhaa
open Go.RowKit
set_option linter.unusedVariables false
set_option linter.unusedSimpArgs false
theorem badB_snoc (l : List UInt8) (j : Nat) (h : j < l.length) : badB (l.take (j + 1)) = (badB (l.take j) || (l.getD j 0 == 0 || l.getD j 0 == 47)) := by
  unfold badB
  rw [List.take_succ_eq_append_getElem h, List.any_append]
  simp [List.getElem?_eq_getElem h]
theorem badB_take (l : List UInt8) (j : Nat) (h : badB (l.take j) = true) : badB l = true := by
  rw [badB_iff] at h ⊢
  rcases h with h | h
  · exact .inl (List.mem_of_mem_take h)
  · exact .inr (List.mem_of_mem_take h)
set_option maxHeartbeats 1000000 in
theorem rgood_any (s : ByteArray) (w : World) (hs : s.size ≤ 9223372036854775807) : Calls Try.prog 10 #[.string s] w fun e w' => e = .returned (.int .i64 (goodE s.data.toList)) ∧ w = w' := by
  have hsz : s.data.toList.length = s.size := by simp
  have HSZ := Lib.hid hsz
  have HS := Lib.hid hs
  clear hsz hs
  go_enter Try.func10, Try.ntmps10
  go_wp2
  go_loop [3] (fun i => ∃ j : Nat, j ≤ s.size ∧ i = .int .i64 j ∧ Hid (badB (s.data.toList.take j) = false)) (fun i => (s.size - intOf i).toNat)
  case atStart => exact ⟨0, by omega, by rfl, by rfl⟩
  case round =>
    obtain ⟨j, hj, rfl, HJ⟩ := hrel
    by_cases hlt : j < s.size
    · have hsn := badB_snoc s.data.toList j (by rw [HSZ.out]; exact hlt)
      have hx : s.data.toList.getD j 0 = s[j] := by
        rw [List.getD_eq_getElem?_getD, List.getElem?_eq_getElem (by rw [HSZ.out]; exact hlt)]
        rfl
      rw [HJ.out, hx, Bool.false_or] at hsn
      have HSN := Lib.hid hsn
      clear hsn hx
      have hbad : (s[j].toNat = 0 ∨ s[j].toNat = 47) → goodE s.data.toList = 1 := fun h => by
        have : badB (s.data.toList.take (j + 1)) = true := by
          rw [HSN.out]
          rcases h with h | h
          · have : s[j] = 0 := UInt8.toNat_inj.1 h
            rw [this]; rfl
          · have : s[j] = 47 := UInt8.toNat_inj.1 h
            rw [this]; rfl
        unfold goodE; rw [if_pos (badB_take _ _ this)]
      have HBAD := Lib.hid hbad
      clear hbad
      go_wp2
      · have h : s[j].toNat = 0 := by assumption
        go_ret
        exact ⟨by rw [HBAD.out (.inl h)]; rfl, rfl⟩
      · have h2 : ((s[j].toNat : Int) == 0) = true ∨ ((s[j].toNat : Int) == 47) = true := by assumption
        go_ret
        have : s[j].toNat = 0 ∨ s[j].toNat = 47 := by simp only [beq_iff_eq] at h2; omega
        exact ⟨by rw [HBAD.out this]; rfl, rfl⟩
      · have h1 : ¬ s[j].toNat = 0 := by assumption
        have h2 : ((s[j].toNat : Int) == 0) = false ∧ ((s[j].toNat : Int) == 47) = false := by assumption
        have hs := HS.out
        have hwj : wrap64 ((j : Int) + 1) = ((j + 1 : Nat) : Int) := by rw [← i64_w, Int.natCast_add]; exact IntWalk.i64_in _ (by omega)
        rw [hwj]
        refine ⟨⟨j + 1, by omega, rfl, ?_⟩, by simp [intOf]; omega⟩
        unfold Hid
        rw [HSN.out]
        have n0 : ¬ s[j] = 0 := fun h => h1 (by rw [h]; rfl)
        have n47 : ¬ s[j] = 47 := fun h => by have := h2.2; rw [h] at this; exact absurd this (by decide)
        simp [n0, n47]
    · obtain rfl : j = s.size := by omega
      have hb : badB s.data.toList = false := by
        have := HJ.out
        rwa [List.take_of_length_le (by rw [HSZ.out]; exact Nat.le_refl _)] at this
      have hge : goodE s.data.toList = if s.size = 0 then 4 else if 26 < s.size then 9 else 0 := by unfold goodE; rw [hb, HSZ.out]; rfl
      have HGE := Lib.hid hge
      clear hb hge
      go_wp2
      · have h : ((s.size : Int) == 0) = true := by assumption
        go_ret
        have h0 : s.size = 0 := by simp only [beq_iff_eq] at h; omega
        exact ⟨by rw [HGE.out, if_pos h0]; rfl, rfl⟩
      · have h1 : ((s.size : Int) == 0) = false := by assumption
        have h2 : (26 : Int) < (s.size : Int) := by assumption
        go_ret
        have h0 : ¬ s.size = 0 := by simp only [beq_eq_false_iff_ne, ne_eq] at h1; omega
        exact ⟨by rw [HGE.out, if_neg h0, if_pos (by omega)]; rfl, rfl⟩
      · have h1 : ((s.size : Int) == 0) = false := by assumption
        have h2 : (s.size : Int) ≤ 26 := by assumption
        go_ret
        have h0 : ¬ s.size = 0 := by simp only [beq_eq_false_iff_ne, ne_eq] at h1; omega
        exact ⟨by rw [HGE.out, if_neg h0, if_neg (by omega)]; rfl, rfl⟩
end Go.Proofs.Ytcgfhpgjaibmhaa
