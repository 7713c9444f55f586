/-
  Sealed sectors: the walks of the reference's Make and Open.
-/
import Derived.Test.YtcpfafmkhegckaaSealP
import Derived.Test.YtcpfafmkhegckaaRef01
import Derived.Deep.DeepCutAuto
import Derived.Deep.CutBlock
import Derived.IntWalk
namespace Go.Proofs.Ytcpfafmkhegckaa
open Go.RowKit
set_option linter.unusedVariables false
set_option linter.unusedSimpArgs false
theorem full_of_le (l : List UInt8) (h : l.length = 128) : full l = l := by
  unfold full; rw [List.take_of_length_le (by omega), h]; simp
def headL (kind : UInt8) (b : List UInt8) : List UInt8 := [215, 76, kind, UInt8.ofNat b.length] ++ b
theorem headL_length (k : UInt8) (b : List UInt8) : (headL k b).length = b.length + 4 := by simp [headL]
theorem headL_pad (k : UInt8) (b : List UInt8) : headL k b ++ List.replicate (120 - b.length) 0 = sealH k b := by simp [headL, sealH]
theorem own_lit (w : World) (e : Nat) (cs : List Value) (n : Nat) (hn : cs.length = n) (hm : n ≤ maxLen) : (w.alloc (.cells cs.toArray e (0, 0))).ownsRow w.heap.size e 1 (.slice (some ⟨w.heap.size, 0, none⟩) n n) n cs :=
  ⟨by simp [hn], .inr ⟨w.heap.size, n, cs.toArray, rfl, Nat.le_refl _, heap_alloc_last w _, Nat.le_refl _, hm, by simp [hn], by simp [← hn]⟩⟩
end Go.Proofs.Ytcpfafmkhegckaa
