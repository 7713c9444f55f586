/-
  The statement GeomGrows of layer 4, joined.
-/
import Derived.Test.YteepgdfjbpfakaaLaw04b
namespace Go.Proofs.Yteepgdfjbpfakaa
open Go.RowKit
theorem geomGrows_walk (s g i : Int) (m0 m1 m2 : Int) (w : World) (hs : -9223372036854775808 ≤ s) (hg : -9223372036854775808 ≤ g) (hi : i ≤ 9223372036854775807) :
    Calls Try.prog 4 #[geomV s g i, .agg #[.int .i64 m0, .int .i64 m1, .int .i64 m2]] w (RetT w true) := by
  cases h : gIn s g i with
  | false => exact geomGrows_bad s g i m0 m1 m2 w hs hg hi (fun W => check_out s g i W h)
  | true =>
    have hin := h
    simp only [gIn, decide_eq_true_eq] at hin
    obtain ⟨a, rfl⟩ := Int.eq_ofNat_of_zero_le (show 0 ≤ s by omega)
    obtain ⟨b, rfl⟩ := Int.eq_ofNat_of_zero_le (show 0 ≤ g by omega)
    obtain ⟨c, rfl⟩ := Int.eq_ofNat_of_zero_le (show 0 ≤ i by omega)
    by_cases hr : 8 ≤ gRoom a b c
    · exact geomGrows_ok a b c m0 m1 m2 w (by omega) (by omega) (by omega) (by omega) (by omega) (by omega) hr
    · exact geomGrows_bad a b c m0 m1 m2 w hs hg hi (fun W => by have := check_in a b c W h; rwa [if_neg hr] at this)
end Go.Proofs.Yteepgdfjbpfakaa
