/-
  The inode map's functions, walked: New, has, the closure, IndexFunc, Alloc, given, Link, Release, Get.
-/
import Derived.Test.YtakoajdcdoigdaaMapA
import Derived.Test.YtakoajdcdoigdaaProg
namespace Go.Proofs.Ytakoajdcdoigdaa
open Go.RowKit
attribute [local go_sem] maxI_two minI_two
set_option linter.unusedVariables false
set_option linter.unusedSimpArgs false
theorem info_slot : (Try.prog.info? 42).map (fun i => (i.zero, i.size, i.bytes)) = some (some (slV sl0), 4, 32) := by kernel_rfl
def newN (n : Int) : Nat := (mxI 1 (mnI n 200)).toNat
theorem newN_eq (n : Int) : mxI 1 (mnI n 200) = (newN n : Int) ∧ 1 ≤ newN n ∧ newN n ≤ 200 := by
  unfold newN mxI mnI
  split <;> split <;> omega
/-- What New comes to. -/
def NewTo (w : World) (N : Nat) (e : Ending) (w' : World) : Prop := ∃ p g, e = .returned (.pointer (some ⟨p, 0, none⟩)) ∧ w.heap.size ≤ p ∧ w.heap.size ≤ g ∧ MapAt w' p g N (List.replicate N sl0) ∧ Below w.heap.size w w'
set_option maxHeartbeats 1000000 in
theorem inew_any (n : Int) (w : World) : Calls Try.prog 7 #[.int .i64 n] w (NewTo w (newN n)) := by
  obtain ⟨h1, h2, h3⟩ := newN_eq n
  have H1 := Lib.hid h1
  clear h1
  go_enter Try.func7, Try.ntmps7
  go_wp2_with (first
    | (refine wpList_make_rd _ rfl _ _ 47 rfl w.heap.size 42 (slV sl0) 4 32 Try.underlying47 info_slot (mxI 1 (mnI n 200)) (mxI 1 (mnI n 200)) (newN n) rfl rfl H1.out H1.out (by omega) (by unfold maxLen; omega) (Nat.le_refl _) ?_; intro w1 how hb1))
  have hA : ArrAt w1 w.heap.size 42 slF 4 (List.replicate (newN n) sl0) (newN n) := by
    rw [made_rows slF slF_len sl0 (slV sl0).cells (newN n) rfl] at how
    exact (ArrAt.of_own how (by simp)).1
  have hbox := (Below.refl w1.heap.size w1).alloc (Nat.le_refl _) (.cells #[.slice (some ⟨w.heap.size, 0, none⟩) (newN n) (newN n)] 62 (0, 0))
  have hM : MapAt (w1.alloc (.cells #[.slice (some ⟨w.heap.size, 0, none⟩) (newN n) (newN n)] 62 (0, 0))) w1.heap.size w.heap.size (newN n) (List.replicate (newN n) sl0) := by
    have hlt := RawAt.lt hA
    refine ⟨by omega, ?_, RawAt.below hA hbox⟩
    rw [List.length_replicate]
    exact new_heap w1 _
  have hB : Below w.heap.size w (w1.alloc (.cells #[.slice (some ⟨w.heap.size, 0, none⟩) (newN n) (newN n)] 62 (0, 0))) := bnext hb1 hbox
  have hp : w.heap.size ≤ w1.heap.size := hb1.size
  go_ret
  exact ⟨w1.heap.size, w.heap.size, rfl, hp, Nat.le_refl _, hM, hB⟩
theorem ihas_yes (p g c : Nat) (L : List Sl) (i : Nat) (w : World) (h : MapAt w p g c L) (hi : i < L.length) :
    Calls Try.prog 24 #[.pointer (some ⟨p, 0, none⟩), .int .i64 ((i : Int) + 1)] w fun e w' => e = .returned (.bool true) ∧ w = w' := by
  have hc := h.head
  have h1 : 1 ≤ (i : Int) + 1 := by omega
  have h2 : (i : Int) + 1 ≤ (L.length : Int) := by omega
  go_enter Try.func24, Try.ntmps24
  go_wp2
  go_ret
  exact ⟨rfl, rfl⟩
theorem ihas_no (p g c : Nat) (L : List Sl) (num : Int) (w : World) (h : MapAt w p g c L) (hn : num < 1 ∨ (L.length : Int) < num) :
    Calls Try.prog 24 #[.pointer (some ⟨p, 0, none⟩), .int .i64 num] w fun e w' => e = .returned (.bool false) ∧ w = w' := by
  have hc := h.head
  by_cases h1 : num < 1
  · go_enter Try.func24, Try.ntmps24
    go_wp2
    go_ret
    exact ⟨rfl, rfl⟩
  · have h2 : ¬ num ≤ (L.length : Int) := by omega
    clear hn
    go_enter Try.func24, Try.ntmps24
    go_wp2
    go_ret
    exact ⟨rfl, rfl⟩
theorem icl_any (s : Sl) (w : World) : Calls Try.prog 22 #[slV s] w (RetT w (s.kind == 0)) := by
  have hbox := (Below.refl w.heap.size w).alloc (Nat.le_refl _) (.cells #[.int .i64 s.at_, .int .u32 (s.ver : Int), .int .i64 s.links, .int .i64 s.kind] 42 (0, 0))
  have HB := Lib.hid hbox
  clear hbox
  unfold slV
  go_enter Try.func22, Try.ntmps22
  go_wp2
  go_ret
  exact ⟨rfl, HB.out⟩
def freeI (L : List Sl) : Int := match mFree L with | some i => (i : Int) | none => -1
theorem free_at {L : List Sl} {j : Nat} {s : Sl} (hj : L[j]? = some s) (hn : ∀ i, i < j → ∀ x, L[i]? = some x → x.kind ≠ 0) (hs : s.kind = 0) : freeI L = (j : Int) := by
  have hlt : j < L.length := (List.getElem?_eq_some_iff.1 hj).1
  have : mFree L = some j := by
    unfold mFree
    rw [List.findIdx?_eq_some_iff_getElem]
    rw [List.getElem?_eq_getElem hlt] at hj
    refine ⟨hlt, by cases hj; simpa using hs, fun i hi => ?_⟩
    have := hn i hi _ (List.getElem?_eq_getElem (by omega))
    simpa using this
  unfold freeI; rw [this]
theorem free_not {L : List Sl} (hn : ∀ i, i < L.length → ∀ x, L[i]? = some x → x.kind ≠ 0) : freeI L = -1 := by
  have : mFree L = none := by
    unfold mFree
    rw [List.findIdx?_eq_none_iff]
    intro x hx
    obtain ⟨i, hi, rfl⟩ := List.getElem_of_mem hx
    simpa using hn i hi _ (List.getElem?_eq_getElem hi)
  unfold freeI; rw [this]
set_option maxHeartbeats 1000000 in
set_option maxRecDepth 10000 in
theorem iindex_any (p g c : Nat) (L : List Sl) (w : World) (h : MapAt w p g c L) (hL : L.length ≤ 200) :
    Calls Try.prog 21 #[.slice (some ⟨g, 0, none⟩) L.length c, .func (.func 22) #[] #[]] w (RetN w (freeI L)) := by
  have HM := Lib.hid h
  clear h
  go_enter Try.func21, Try.ntmps21
  go_wp2
  go_loopw [5, 8] (fun _ i wr => ∃ j : Nat, j ≤ L.length ∧ i = .int .i64 j ∧ Hid (∀ i, i < j → ∀ x, L[i]? = some x → x.kind ≠ 0) ∧ Hid (Below w.heap.size w wr)) (fun _ i _ => (L.length - intOf i).toNat)
  case atStart => exact ⟨0, by omega, by rfl, Lib.hid (fun i h => by omega), Lib.hid (Below.refl _ _)⟩
  case round =>
    obtain ⟨j, hj, rfl, HJ, HB⟩ := hrel
    by_cases hlt : j < L.length
    · obtain ⟨s, hs⟩ : ∃ s, L[j]? = some s := ⟨_, List.getElem?_eq_getElem hlt⟩
      obtain ⟨c0, c1, c2, c3⟩ := (HM.out.below HB.out).slot j s hs
      have HS := Lib.hid hs
      have HCL := Lib.hid (icl_any s wr)
      unfold slV at HCL
      obtain ⟨pb, hpb⟩ : ∃ pb, pb = (s.kind == 0) := ⟨_, rfl⟩
      rw [← hpb] at HCL
      have HPB := Lib.hid hpb
      clear hs hpb
      go_wp2_with (go_at_call 22; go_must (refine HCL.out.mono ?_; rintro e w1 ⟨rfl, hb1⟩; have HB1 := Lib.hid (bnext HB.out hb1); clear hb1))
      · have hp : pb = true := by assumption
        have hF := free_at HS.out HJ.out (by have := HPB.out; rw [hp] at this; simpa using this.symm)
        go_ret
        exact ⟨by rw [hF]; rfl, HB1.out⟩
      · have hp : pb = false := by assumption
        refine ⟨⟨j + 1, by omega, by go_num, Lib.hid (fun i hi x hx => ?_), HB1⟩, by simp [intOf]; omega⟩
        by_cases hij : i = j
        · subst hij
          have h1 := HS.out
          rw [hx] at h1
          cases h1
          have := HPB.out
          rw [hp] at this
          simpa using this.symm
        · exact HJ.out i (by omega) x hx
    · obtain rfl : j = L.length := by omega
      have HF := Lib.hid (free_not HJ.out)
      go_wp2
      go_ret
      exact ⟨by rw [HF.out]; rfl, HB.out⟩
end Go.Proofs.Ytakoajdcdoigdaa
