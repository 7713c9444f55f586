/-
  Names of entries: what may be one.
-/
import Derived.Test.YtcgfhpgjaibmhaaWriterB
import Derived.Test.YtcgfhpgjaibmhaaFull
import Derived.Lib.Bytealg
import Derived.Laws.Externs
import Derived.Laws.IdiomStrings
namespace Go.Proofs.Ytcgfhpgjaibmhaa
open Go.RowKit
set_option linter.unusedVariables false
set_option linter.unusedSimpArgs false
theorem indexByte_neg (l : List UInt8) (c : UInt8) : Lib.indexByte l c = -1 ↔ c ∉ l := by
  induction l with
  | nil => simp [Lib.indexByte]
  | cons b l ih =>
    have hge := Lib.indexByte_ge l c
    unfold Lib.indexByte
    by_cases hb : b = c
    · subst hb; simp
    · have hb' : (b == c) = false := by simpa using hb
      rw [hb']
      simp only [Bool.false_eq_true, if_false]
      have hm : c ∉ b :: l ↔ c ∉ l := by simp [Ne.symm hb]
      rw [hm, ← ih]
      split
      · rename_i h; simp at h; simp [h]
      · rename_i h; simp at h; constructor
        · intro h2; omega
        · intro h2; exact absurd h2 h
/-- The error of a name. -/
def badB (l : List UInt8) : Bool := l.any fun x => x == 0 || x == 47
def goodE (l : List UInt8) : Int := if badB l then 1 else if l.length = 0 then 4 else if 26 < l.length then 9 else 0
theorem badB_iff (l : List UInt8) : badB l = true ↔ (0 ∈ l ∨ 47 ∈ l) := by
  unfold badB
  simp only [List.any_eq_true, Bool.or_eq_true, beq_iff_eq]
  constructor
  · rintro ⟨x, hx, rfl | rfl⟩
    · exact .inl hx
    · exact .inr hx
  · rintro (h | h)
    · exact ⟨_, h, .inl rfl⟩
    · exact ⟨_, h, .inr rfl⟩
set_option maxHeartbeats 1000000 in
theorem slIndex_any (s : ByteArray) (c : Int) (w : World) :
    Calls Try.prog 33 #[.string s, .int .u8 c] w fun e w' => e = .returned (.int .i64 (Lib.indexByte s.data.toList c.toNat.toUInt8)) ∧ w = w' := by
  go_enter Try.func33, Try.ntmps33
  go_wp2
  rw [run_callFunc_extern Try.func37 (by kernel_rfl) (by kernel_rfl) (by kernel_rfl) (e := Extern.BytealgIndexByte.indexByte) (by kernel_rfl), Lib.run_indexByteString]
  simp only [Result.andThen]
  rw [Oper.upon_value]
  go_wp2
  go_ret
  exact ⟨rfl, rfl⟩
theorem strIndex_any (s : ByteArray) (c : Int) (w : World) :
    Calls Try.prog 20 #[.string s, .int .u8 c] w fun e w' => e = .returned (.int .i64 (Lib.indexByte s.data.toList c.toNat.toUInt8)) ∧ w = w' := by
  go_enter Try.func20, Try.ntmps20
  go_wp2_with (go_at_call 33; refine (slIndex_any _ _ _).mono ?_; rintro e w' ⟨rfl, rfl⟩)
  go_ret
  exact ⟨rfl, rfl⟩
set_option maxHeartbeats 1000000 in
theorem good_any (s : ByteArray) (w : World) : Calls Try.prog 9 #[.string s] w fun e w' => e = .returned (.int .i64 (goodE s.data.toList)) ∧ w = w' := by
  have hg0 := Lib.indexByte_ge s.data.toList 0
  have hg1 := Lib.indexByte_ge s.data.toList 47
  have hn0 := indexByte_neg s.data.toList 0
  have hn1 := indexByte_neg s.data.toList 47
  have hq0 : Hid (∀ w', Calls Try.prog 20 #[.string s, .int .u8 0] w' fun e w'' => e = .returned (.int .i64 (Lib.indexByte s.data.toList 0)) ∧ w' = w'') := fun w' => strIndex_any s 0 w'
  have hq1 : Hid (∀ w', Calls Try.prog 20 #[.string s, .int .u8 47] w' fun e w'' => e = .returned (.int .i64 (Lib.indexByte s.data.toList 47)) ∧ w' = w'') := fun w' => strIndex_any s 47 w'
  obtain ⟨i0, hi0⟩ : ∃ i0, i0 = Lib.indexByte s.data.toList 0 := ⟨_, rfl⟩
  obtain ⟨i1, hi1⟩ : ∃ i1, i1 = Lib.indexByte s.data.toList 47 := ⟨_, rfl⟩
  rw [← hi0] at hq0 hg0 hn0
  rw [← hi1] at hq1 hg1 hn1
  have HB := Lib.hid (badB_iff s.data.toList)
  have HN0 := Lib.hid hn0
  have HN1 := Lib.hid hn1
  clear hi0 hi1 hn0 hn1
  by_cases h0 : 0 ≤ i0
  · have hb : goodE s.data.toList = 1 := by
      unfold goodE; rw [if_pos]; rw [HB.out]; left
      exact Classical.byContradiction fun h => by have := HN0.out.2 h; omega
    rw [hb]
    clear hb
    go_enter Try.func9, Try.ntmps9
    go_wp2_with (go_at_call 20; with_reducible refine (hq0.out _).mono ?_; rintro e w' ⟨rfl, rfl⟩)
    go_ret
    exact ⟨rfl, rfl⟩
  · by_cases h1 : 0 ≤ i1
    · have hb : goodE s.data.toList = 1 := by
        unfold goodE; rw [if_pos]; rw [HB.out]; right
        exact Classical.byContradiction fun h => by have := HN1.out.2 h; omega
      rw [hb]
      clear hb
      go_enter Try.func9, Try.ntmps9
      go_wp2_with (first | (go_at_call 20; with_reducible refine (hq0.out _).mono ?_; rintro e w' ⟨rfl, rfl⟩) | (go_at_call 20; with_reducible refine (hq1.out _).mono ?_; rintro e w' ⟨rfl, rfl⟩))
      go_ret
      exact ⟨rfl, rfl⟩
    · have hb : badB s.data.toList = false := by
        cases h : badB s.data.toList with
        | false => rfl
        | true =>
          rcases HB.out.1 h with h2 | h2
          · exact absurd h2 (HN0.out.1 (by omega))
          · exact absurd h2 (HN1.out.1 (by omega))
      have hsz : s.data.toList.length = s.size := by simp
      have hcut : ∀ K : Int → Prop, (s.toList.isEmpty = true → K 4) → (s.toList.isEmpty = false → (26 : Int) < (s.size : Int) → K 9) → (s.toList.isEmpty = false → ¬ (26 : Int) < (s.size : Int) → K 0) → K (goodE s.data.toList) := fun K a b c => by
        unfold goodE
        rw [hb, if_neg (by simp)]
        by_cases h4 : s.data.toList.length = 0
        · rw [if_pos h4]
          exact a (by rw [ByteArray.toList_eq, List.eq_nil_of_length_eq_zero h4]; rfl)
        · have hne : s.toList.isEmpty = false := by
            rw [ByteArray.toList_eq]
            cases hl : s.data.toList with
            | nil => rw [hl] at h4; exact absurd rfl h4
            | cons _ _ => rfl
          rw [if_neg h4]
          by_cases h9 : 26 < s.data.toList.length
          · rw [if_pos h9]; exact b hne (by omega)
          · rw [if_neg h9]; exact c hne (by omega)
      clear hb hsz
      refine hcut (fun z => Calls Try.prog 9 #[.string s] w fun e w' => e = .returned (.int .i64 z) ∧ w = w') ?_ ?_ ?_ <;> clear hcut <;> intros
      all_goals
        go_enter Try.func9, Try.ntmps9
        go_wp2_with (first | (go_at_call 20; with_reducible refine (hq0.out _).mono ?_; rintro e w' ⟨rfl, rfl⟩) | (go_at_call 20; with_reducible refine (hq1.out _).mono ?_; rintro e w' ⟨rfl, rfl⟩))
        go_ret
        exact ⟨rfl, rfl⟩
end Go.Proofs.Ytcgfhpgjaibmhaa
