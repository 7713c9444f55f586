/-
  A block of a directory: the reference's May and Write.
-/
import Derived.Test.YtcgfhpgjaibmhaaDirG
namespace Go.Proofs.Ytcgfhpgjaibmhaa
open Go.RowKit
set_option linter.unusedVariables false
set_option linter.unusedSimpArgs false
theorem entsOk_all {E : List Ent} (h : ∀ i, i < 4 → entOk (eAt E i) = true) : entsOk E = true := by
  have h0 := h 0 (by decide); have h1 := h 1 (by decide); have h2 := h 2 (by decide); have h3 := h 3 (by decide)
  unfold eAt at h0 h1 h2 h3
  unfold entsOk; rw [h0, h1, h2, h3]; rfl
theorem entsOk_not {E : List Ent} {j : Nat} (hj : j < 4) (h : entOk (eAt E j) = false) : entsOk E = false := by
  unfold eAt at h
  unfold entsOk
  match j, hj with
  | 0, _ => rw [h]; rfl
  | 1, _ => rw [h]; simp
  | 2, _ => rw [h]; simp
  | 3, _ => rw [h]; simp
theorem entsOk_at {E : List Ent} (h : entsOk E = true) (j : Nat) (hj : j < 4) : entOk (eAt E j) = true := by
  cases hq : entOk (eAt E j) with
  | true => rfl
  | false => rw [entsOk_not hj hq] at h; cases h
set_option maxHeartbeats 2000000 in
set_option maxRecDepth 10000 in
theorem rmay06_any (n0 n1 n2 n3 : Int) (s0 s1 s2 s3 : ByteArray) (w : World) (hsz : ∀ i, i < 4 → (eAt (entsL n0 n1 n2 n3 s0 s1 s2 s3) i).2.size ≤ 1000) :
    Calls Try.prog 28 #[entsV (n0, s0) (n1, s1) (n2, s2) (n3, s3)] w (RetT w (entsOk (entsL n0 n1 n2 n3 s0 s1 s2 s3))) := by
  have hg0 := heap_alloc_last w (.cells #[.int .i64 n0, .string s0, .int .i64 n1, .string s1, .int .i64 n2, .string s2, .int .i64 n3, .string s3] 29 (0, 0))
  have hb0 : Below w.heap.size w (w.alloc (.cells #[.int .i64 n0, .string s0, .int .i64 n1, .string s1, .int .i64 n2, .string s2, .int .i64 n3, .string s3] 29 (0, 0))) := (Below.refl _ _).alloc (Nat.le_refl _) _
  have hEA := entsAt_row hg0
  obtain ⟨E, hE⟩ : ∃ E, E = entsL n0 n1 n2 n3 s0 s1 s2 s3 := ⟨_, rfl⟩
  rw [← hE] at hEA hsz ⊢
  have HEA := Lib.hid hEA
  have HB0 := Lib.hid hb0
  have HSZ := Lib.hid hsz
  clear hg0 hb0 hEA hE hsz
  unfold entsV
  go_enter Try.func28, Try.ntmps28
  go_wp2
  revert HEA HB0
  generalize w.alloc (.cells #[.int .i64 n0, .string s0, .int .i64 n1, .string s1, .int .i64 n2, .string s2, .int .i64 n3, .string s3] 29 (0, 0)) = w1
  intro HEA HB0
  go_loop [3] (fun i => ∃ j : Nat, j ≤ 4 ∧ i = .int .i64 j ∧ Hid (∀ i, i < j → entOk (eAt E i) = true)) (fun i => (4 - intOf i).toNat)
  case atStart => exact ⟨0, by omega, by rfl, Lib.hid (fun i h => by omega)⟩
  case round =>
    obtain ⟨j, hj, rfl, HOK⟩ := hrel
    by_cases hj4 : j < 4
    · obtain ⟨c0, c1⟩ := HEA.out j hj4
      have hs1000 := HSZ.out j hj4
      have HNO : Hid (entOk (eAt E j) = false → entsOk E = false) := fun h => entsOk_not hj4 h
      have HYES : Hid (entOk (eAt E j) = true → ∀ i, i < j + 1 → entOk (eAt E i) = true) := fun h i hi => by
        by_cases hij : i = j
        · rw [hij]; exact h
        · exact HOK.out i (by omega)
      have hent : entOk (eAt E j) = mayE (eAt E j).1 (eAt E j).2 := rfl
      obtain ⟨n, hn⟩ : ∃ n, n = (eAt E j).1 := ⟨_, rfl⟩
      obtain ⟨s, hs⟩ : ∃ s, s = (eAt E j).2 := ⟨_, rfl⟩
      rw [← hn, ← hs] at hent
      rw [← hn] at c0
      rw [← hs] at c1 hs1000
      have HG := fun w' => Lib.hid (rgood_any s w' (by omega))
      obtain ⟨ge, hge⟩ : ∃ ge, ge = goodE s.data.toList := ⟨_, rfl⟩
      rw [← hge] at HG
      have hmay : mayE n s = if n = 0 then s.size == 0 else decide (0 < n ∧ n ≤ 200 ∧ ge = 0) := by unfold mayE; rw [hge]
      rw [hmay] at hent
      have hemp := empty_iff s
      have HENT := Lib.hid hent
      clear hn hs hge hmay hent
      by_cases hneg : n < 0
      · have hno : entsOk E = false := HNO.out (by rw [HENT.out, if_neg (by omega)]; simp; omega)
        have HX := Lib.hid hno
        clear hno hemp
        go_wp2
        go_ret
        exact ⟨by rw [HX.out]; rfl, HB0.out⟩
      · by_cases h200 : 200 < n
        · have hno : entsOk E = false := HNO.out (by rw [HENT.out, if_neg (by omega)]; simp; omega)
          have HX := Lib.hid hno
          clear hno hemp
          go_wp2
          go_ret
          exact ⟨by rw [HX.out]; rfl, HB0.out⟩
        · by_cases h0 : n = 0
          · have h0' : (n == 0) = true := by simpa using h0
            have hng : ¬ (0 < n) := by omega
            by_cases hem : s.size = 0
            · have hem' : s.toList.isEmpty = true := by rw [hemp]; simpa using hem
              have hyes := HYES.out (by rw [HENT.out, if_pos h0]; simpa using hem)
              have HX := Lib.hid hyes
              clear hyes hemp hem
              go_wp2
              exact ⟨⟨j + 1, by omega, by go_num, HX⟩, by simp [intOf] <;> omega⟩
            · have hem' : s.toList.isEmpty = false := by rw [hemp]; simpa using hem
              have hno : entsOk E = false := HNO.out (by rw [HENT.out, if_pos h0]; simpa using hem)
              have HX := Lib.hid hno
              clear hno hemp hem
              go_wp2
              go_ret
              exact ⟨by rw [HX.out]; rfl, HB0.out⟩
          · have h0' : (n == 0) = false := by simpa using h0
            have hpos : 0 < n := by omega
            by_cases hgz : ge = 0
            · subst hgz
              have hyes := HYES.out (by rw [HENT.out, if_neg h0]; simp; omega)
              have HX := Lib.hid hyes
              clear hyes hemp
              go_wp2_with (go_at_call 10; go_must (refine (HG _).out.mono ?_; rintro e w2 ⟨rfl, rfl⟩))
              exact ⟨⟨j + 1, by omega, by go_num, HX⟩, by simp [intOf] <;> omega⟩
            · have hgz' : (ge != 0) = true := by simpa using hgz
              have hno : entsOk E = false := HNO.out (by rw [HENT.out, if_neg h0]; simp [hgz])
              have HX := Lib.hid hno
              clear hno hemp hgz
              go_wp2_with (go_at_call 10; go_must (refine (HG _).out.mono ?_; rintro e w2 ⟨rfl, rfl⟩))
              go_ret
              exact ⟨by rw [HX.out]; rfl, HB0.out⟩
    · obtain rfl : j = 4 := by omega
      have hyes : entsOk E = true := entsOk_all HOK.out
      have HX := Lib.hid hyes
      clear hyes
      go_wp2
      go_ret
      exact ⟨by rw [HX.out]; rfl, HB0.out⟩
end Go.Proofs.Ytcgfhpgjaibmhaa
