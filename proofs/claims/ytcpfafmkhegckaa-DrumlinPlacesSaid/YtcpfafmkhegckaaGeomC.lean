/-
  The contracts of a geometry's places: first, Sectors, Region, Summary, Block.
-/
import Derived.Test.YtcpfafmkhegckaaGeomA
namespace Go.Proofs.Ytcpfafmkhegckaa
open Go.RowKit
set_option linter.unusedVariables false
set_option linter.unusedSimpArgs false

def gHead (s i : Nat) : Nat := 1 + gChunks i + gTables s
def gFirst (s i : Nat) : Nat := 1 + 2 * gHead s i
def gSectors (s g i : Nat) : Nat := gFirst s i + s * g * 9
theorem gHead_le (s i : Nat) (hs : s ≤ 1000) (hi : i ≤ 1000) : gHead s i ≤ 2001 := by
  have h1 : gChunks i ≤ 1000 := Nat.le_trans (gup_le _ _ (by decide)) hi
  have h2 : gTables s ≤ 1000 := Nat.le_trans (gup_le _ _ (by decide)) hs
  unfold gHead; omega
set_option maxHeartbeats 1000000 in
theorem first_any (g : Int) (s i : Nat) (w : World) (hs : s ≤ 1000) (hi : i ≤ 1000) : Calls Try.prog 47 #[geomV s g i] w (RetN w (gFirst s i : Nat)) := by
  have h1 : gChunks i ≤ 1000 := Nat.le_trans (gup_le _ _ (by decide)) hi
  have h2 : gTables s ≤ 1000 := Nat.le_trans (gup_le _ _ (by decide)) hs
  have hv : IntKind.i64.wrap (1 + IntKind.i64.wrap (2 * IntKind.i64.wrap (IntKind.i64.wrap (1 + ((gChunks i : Nat) : Int)) + ((gTables s : Nat) : Int)))) = ((gFirst s i : Nat) : Int) := by
    simp (discharger := omega) only [IntWalk.i64_in]
    unfold gFirst gHead; omega
  have HV := Lib.hid hv; clear hv
  have hbox := (Below.refl w.heap.size w).alloc (Nat.le_refl _) (.cells #[.int .i64 s, .int .i64 g, .int .i64 i] 26 (0, 0))
  unfold geomV
  go_enter Try.func47, Try.ntmps47
  go_wp2
  go_region_held3 (fun w' => w'.cell? ⟨w.heap.size, 0, none⟩ = some (.int .i64 s) ∧ w'.cell? ⟨w.heap.size, 1, none⟩ = some (.int .i64 g) ∧ w'.cell? ⟨w.heap.size, 2, none⟩ = some (.int .i64 i)) (first | (go_simp; done) | (exact At3.below ‹_› ‹_›))
    (first
      | (go_at_call 103; refine (chunks_any _ _ i _ hi).mono ?_; rintro e w1 ⟨rfl, hb1⟩)
      | (go_at_call 104; refine (tables_any _ _ s _ hs).mono ?_; rintro e w2 ⟨rfl, hb2⟩))
  rw [HV.out]
  go_wp2
  go_ret
  exact ⟨rfl, bnext (bnext hbox.drew hb1) hb2⟩
set_option maxHeartbeats 1000000 in
theorem sectors_any (s g i : Nat) (w : World) (hs : s ≤ 1000) (hg : g ≤ 1000) (hi : i ≤ 1000) : Calls Try.prog 6 #[geomV s g i] w (RetN w (gSectors s g i : Nat)) := by
  have h1 := gHead_le s i hs hi
  have h2 : s * g ≤ 1000 * 1000 := Nat.mul_le_mul hs hg
  have hv : IntKind.i64.wrap (((gFirst s i : Nat) : Int) + IntKind.i64.wrap (IntKind.i64.wrap ((s : Int) * (g : Int)) * 9)) = ((gSectors s g i : Nat) : Int) := by
    rw [← Int.natCast_mul]
    have h3 : gFirst s i ≤ 10000 := by unfold gFirst; omega
    simp (discharger := omega) only [IntWalk.i64_in]
    unfold gSectors; omega
  have HV := Lib.hid hv; clear hv
  have hbox := (Below.refl w.heap.size w).alloc (Nat.le_refl _) (.cells #[.int .i64 s, .int .i64 g, .int .i64 i] 26 (0, 0))
  unfold geomV
  go_enter Try.func6, Try.ntmps6
  go_wp2
  go_region_held3 (fun w' => w'.cell? ⟨w.heap.size, 0, none⟩ = some (.int .i64 s) ∧ w'.cell? ⟨w.heap.size, 1, none⟩ = some (.int .i64 g) ∧ w'.cell? ⟨w.heap.size, 2, none⟩ = some (.int .i64 i)) (first | (go_simp; done) | (exact At3.below ‹_› ‹_›))
    (first | (go_at_call 47; refine (first_any _ s i _ hs hi).mono ?_; rintro e w1 ⟨rfl, hb1⟩))
  rw [HV.out]
  go_wp2
  go_ret
  exact ⟨rfl, bnext hbox.drew hb1⟩
/-- The sector of a summary. -/
def gSum (s g i seg group : Nat) : Nat := gFirst s i + (seg * g + group) * 9
set_option maxHeartbeats 1000000 in
theorem summary_in (s g i seg group : Nat) (w : World) (hs : s ≤ 1000) (hg : g ≤ 1000) (hi : i ≤ 1000) (h1 : seg < s) (h2 : group < g) : Calls Try.prog 55 #[geomV s g i, .int .i64 seg, .int .i64 group] w (RetN w (gSum s g i seg group : Nat)) := by
  have h3 := gHead_le s i hs hi
  have h4 : seg * g ≤ 1000 * 1000 := Nat.mul_le_mul (by omega) hg
  have e1 : (decide ((0 : Int) ≤ (seg : Int)) && decide ((seg : Int) ≤ (s : Int) - 1)) = true := by simp; omega
  have e2 : (decide ((0 : Int) ≤ (group : Int)) && decide ((group : Int) ≤ (g : Int) - 1)) = true := by simp; omega
  have E1 := Lib.hid e1
  have E2 := Lib.hid e2
  clear e1 e2
  have hv : IntKind.i64.wrap (((gFirst s i : Nat) : Int) + IntKind.i64.wrap (IntKind.i64.wrap (IntKind.i64.wrap ((seg : Int) * (g : Int)) + (group : Int)) * 9)) = ((gSum s g i seg group : Nat) : Int) := by
    rw [← Int.natCast_mul]
    have h5 : gFirst s i ≤ 10000 := by unfold gFirst; omega
    simp (discharger := omega) only [IntWalk.i64_in]
    unfold gSum; omega
  have HV := Lib.hid hv; clear hv
  have hbox := (Below.refl w.heap.size w).alloc (Nat.le_refl _) (.cells #[.int .i64 s, .int .i64 g, .int .i64 i] 26 (0, 0))
  unfold geomV
  go_enter Try.func55, Try.ntmps55
  go_wp2_with (go_at_call 56; refine (among_any _ _ _ _).mono ?_; rintro e w' ⟨rfl, rfl⟩; first | rw [E1.out] | rw [E2.out])
  go_region_held3 (fun w' => w'.cell? ⟨w.heap.size, 0, none⟩ = some (.int .i64 s) ∧ w'.cell? ⟨w.heap.size, 1, none⟩ = some (.int .i64 g) ∧ w'.cell? ⟨w.heap.size, 2, none⟩ = some (.int .i64 i)) (first | (go_simp; done) | (exact At3.below ‹_› ‹_›))
    (first | (go_at_call 47; refine (first_any _ s i _ hs hi).mono ?_; rintro e w1 ⟨rfl, hb1⟩))
  rw [HV.out]
  go_wp2
  go_ret
  exact ⟨rfl, bnext hbox.drew hb1⟩
set_option maxHeartbeats 1000000 in
theorem summary_out (s g : Nat) (i seg group : Int) (w : World) (hs : s ≤ 1000) (hg : g ≤ 1000) (h : ¬ (0 ≤ seg ∧ seg < s ∧ 0 ≤ group ∧ group < g)) : Calls Try.prog 55 #[geomV s g i, .int .i64 seg, .int .i64 group] w (RetN w (-1)) := by
  have hbox := (Below.refl w.heap.size w).alloc (Nat.le_refl _) (.cells #[.int .i64 s, .int .i64 g, .int .i64 i] 26 (0, 0))
  unfold geomV
  by_cases h1 : 0 ≤ seg ∧ seg < s
  · have e1 : (decide ((0 : Int) ≤ seg) && decide (seg ≤ (s : Int) - 1)) = true := by simp; omega
    have e2 : (decide ((0 : Int) ≤ group) && decide (group ≤ (g : Int) - 1)) = false := by simp; omega
    have E1 := Lib.hid e1
    have E2 := Lib.hid e2
    clear e1 e2 h1 h
    go_enter Try.func55, Try.ntmps55
    go_wp2_with (go_at_call 56; refine (among_any _ _ _ _).mono ?_; rintro e w' ⟨rfl, rfl⟩; first | rw [E1.out] | rw [E2.out])
    go_ret
    exact ⟨rfl, hbox⟩
  · have e1 : (decide ((0 : Int) ≤ seg) && decide (seg ≤ (s : Int) - 1)) = false := by simp; omega
    have E1 := Lib.hid e1
    clear e1 h1 h
    go_enter Try.func55, Try.ntmps55
    go_wp2_with (go_at_call 56; refine (among_any _ _ _ _).mono ?_; rintro e w' ⟨rfl, rfl⟩; rw [E1.out])
    go_ret
    exact ⟨rfl, hbox⟩
set_option maxHeartbeats 1000000 in
theorem block_in (s g i seg group slot : Nat) (w : World) (hs : s ≤ 1000) (hg : g ≤ 1000) (hi : i ≤ 1000) (h1 : seg < s) (h2 : group < g) (h3 : slot < 8) : Calls Try.prog 13 #[geomV s g i, .int .i64 seg, .int .i64 group, .int .i64 slot] w (RetN w ((gSum s g i seg group + 1 + slot : Nat) : Int)) := by
  have h4 : seg * g ≤ 1000 * 1000 := Nat.mul_le_mul (by omega) hg
  have h5 := gHead_le s i hs hi
  have h6 : gSum s g i seg group ≤ 100000000 := by unfold gSum gFirst; omega
  have e1 : (decide ((0 : Int) ≤ (slot : Int)) && decide ((slot : Int) ≤ 7)) = true := by simp; omega
  have E1 := Lib.hid e1
  clear e1 h4 h5
  have hbox := (Below.refl w.heap.size w).alloc (Nat.le_refl _) (.cells #[.int .i64 s, .int .i64 g, .int .i64 i] 26 (0, 0))
  unfold geomV
  go_enter Try.func13, Try.ntmps13
  go_wp2_with (first
    | (go_at_call 56; refine (among_any _ _ _ _).mono ?_; rintro e w' ⟨rfl, rfl⟩; rw [E1.out])
    | (go_at_call 55; refine (summary_in s g i seg group _ hs hg hi h1 h2).mono ?_; rintro e w1 ⟨rfl, hb1⟩))
  go_ret
  exact ⟨by simp, bnext hbox hb1⟩
set_option maxHeartbeats 1000000 in
theorem block_out (s g : Nat) (i seg group slot : Int) (w : World) (hs : s ≤ 1000) (hg : g ≤ 1000) (h : ¬ (0 ≤ seg ∧ seg < s ∧ 0 ≤ group ∧ group < g)) : Calls Try.prog 13 #[geomV s g i, .int .i64 seg, .int .i64 group, .int .i64 slot] w (RetN w (-1)) := by
  have hbox := (Below.refl w.heap.size w).alloc (Nat.le_refl _) (.cells #[.int .i64 s, .int .i64 g, .int .i64 i] 26 (0, 0))
  have H := Lib.hid h; clear h
  unfold geomV
  go_enter Try.func13, Try.ntmps13
  go_wp2_with (go_at_call 55; refine (summary_out s g i seg group _ hs hg H.out).mono ?_; rintro e w1 ⟨rfl, hb1⟩)
  go_ret
  exact ⟨rfl, bnext hbox hb1⟩
set_option maxHeartbeats 1000000 in
theorem block_slot (s g i seg group : Nat) (slot : Int) (w : World) (hs : s ≤ 1000) (hg : g ≤ 1000) (hi : i ≤ 1000) (h1 : seg < s) (h2 : group < g) (h3 : slot < 0 ∨ 7 < slot) : Calls Try.prog 13 #[geomV s g i, .int .i64 seg, .int .i64 group, .int .i64 slot] w (RetN w (-1)) := by
  have h4 : seg * g ≤ 1000 * 1000 := Nat.mul_le_mul (by omega) hg
  have e1 : (decide ((0 : Int) ≤ slot) && decide (slot ≤ 7)) = false := by simp; omega
  have E1 := Lib.hid e1
  clear e1 h4 h3
  have hbox := (Below.refl w.heap.size w).alloc (Nat.le_refl _) (.cells #[.int .i64 s, .int .i64 g, .int .i64 i] 26 (0, 0))
  unfold geomV
  go_enter Try.func13, Try.ntmps13
  go_wp2_with (first
    | (go_at_call 56; refine (among_any _ _ _ _).mono ?_; rintro e w' ⟨rfl, rfl⟩; rw [E1.out])
    | (go_at_call 55; refine (summary_in s g i seg group _ hs hg hi h1 h2).mono ?_; rintro e w1 ⟨rfl, hb1⟩))
  go_ret
  exact ⟨rfl, bnext hbox hb1⟩
end Go.Proofs.Ytcpfafmkhegckaa
