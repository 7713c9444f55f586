/-
  The superblock: the walk of the reference's Read.
-/
import Derived.Test.YtcpfafmkhegckaaGeomF
namespace Go.Proofs.Ytcpfafmkhegckaa
open Go.RowKit
set_option linter.unusedVariables false
set_option linter.unusedSimpArgs false
set_option maxHeartbeats 1000000 in
theorem rmay_out (s g i : Int) (w : World) (h : gIn s g i = false) : Calls Try.prog 7 #[geomV s g i] w (RetT w false) := by
  have hbox := (Below.refl w.heap.size w).alloc (Nat.le_refl _) (.cells #[.int .i64 s, .int .i64 g, .int .i64 i] 23 (0, 0))
  unfold geomV
  unfold gIn at h
  simp only [decide_eq_false_iff_not] at h
  have hcut : ∀ K : Prop, (¬ 8 ≤ s → K) → (8 ≤ s → ¬ s ≤ 200 → K) → (8 ≤ s → s ≤ 200 → ¬ 1 ≤ g → K) → (8 ≤ s → s ≤ 200 → 1 ≤ g → ¬ g ≤ 32 → K) → (8 ≤ s → s ≤ 200 → 1 ≤ g → g ≤ 32 → ¬ 2 ≤ i → K) → (8 ≤ s → s ≤ 200 → 1 ≤ g → g ≤ 32 → 2 ≤ i → ¬ i ≤ 200 → K) → K := fun K a b c d e f => by
    by_cases h1 : 8 ≤ s
    · by_cases h2 : s ≤ 200
      · by_cases h3 : 1 ≤ g
        · by_cases h4 : g ≤ 32
          · by_cases h5 : 2 ≤ i
            · exact f h1 h2 h3 h4 h5 (by omega)
            · exact e h1 h2 h3 h4 h5
          · exact d h1 h2 h3 h4
        · exact c h1 h2 h3
      · exact b h1 h2
    · exact a h1
  clear h
  refine hcut _ ?_ ?_ ?_ ?_ ?_ ?_ <;> clear hcut <;> intros
  all_goals
    go_enter Try.func7, Try.ntmps7
    go_wp2
    go_ret
    exact ⟨rfl, hbox⟩
theorem rmay_any (s g i : Nat) (w : World) : Calls Try.prog 7 #[geomV s g i] w (RetT w (gMay s g i)) := by
  cases h : gIn s g i with
  | false =>
    have e : gMay s g i = false := by unfold gMay; rw [h]; rfl
    rw [e]; exact rmay_out s g i w h
  | true =>
    have e : gMay s g i = decide (8 ≤ gRoom s g i) := by unfold gMay; rw [h]; simp
    rw [e]; exact rmay_in s g i w h
theorem size_rgeom : (Try.prog.info? 23).map (·.size) = some 3 := by kernel_rfl
end Go.Proofs.Ytcpfafmkhegckaa
