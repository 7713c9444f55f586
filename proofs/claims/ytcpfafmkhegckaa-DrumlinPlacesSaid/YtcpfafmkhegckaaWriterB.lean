/-
  A writer's sector; a reader.
-/
import Derived.Test.YtcpfafmkhegckaaWriter
import Derived.Test.YtcpfafmkhegckaaSec
namespace Go.Proofs.Ytcpfafmkhegckaa
open Go.RowKit
set_option linter.unusedVariables false
set_option linter.unusedSimpArgs false
/-- What a writer's Sector answers. -/
def wSec (s : WSt) : List UInt8 := if s.2 = 0 then zpad 128 s.1 else List.replicate 128 0
theorem wrRange (g : Nat) (s : WSt) (w : World) (h : WrAt w g s) : w.rangeAt g 0 (bvs (zpad 128 s.1)) := fun j v hv => by
  rw [Nat.zero_add, cell_row h.2]
  have hj : j < (bvs (zpad 128 s.1)).length := (List.getElem?_eq_some_iff.1 hv).1
  unfold wrCells
  rw [List.getElem?_toArray, List.getElem?_append_left hj, hv]
set_option maxHeartbeats 1000000 in
set_option maxRecDepth 10000 in
theorem wsector_ok (g : Nat) (l : List UInt8) (w : World) (h : WrAt w g (l, 0)) :
    Calls Try.prog 52 #[.pointer (some ⟨g, 0, none⟩)] w fun e w' => e = .returned (.tuple #[secV (zpad 128 l), .int .i64 0]) ∧ Below w.heap.size w w' := by
  have c2 := h.c129
  have hr := wrRange g _ w h
  have hl : l.length ≤ 128 := h.1
  have H := Lib.hid h
  have HR := Lib.hid hr
  clear h hr
  have hz := zero_sec
  have hgl : g < w.heap.size := World.block_lt_of_cell? w _ c2
  go_enter Try.func52, Try.ntmps52
  go_wp2_with (first
    | (refine wpList_load_mid rfl 36 (.tmp 16) rfl g 0 rfl (bvs (zpad 128 l)) _ ((World.rangeAt_alloc HR.out _)) Try.underlying36 rfl (by rw [bvs_length, zpad_length _ _ hl]; exact size_sec) ?_)
    | (refine wpList_store_row rfl 36 (.tmp 2) (.tmp 17) rfl w.heap.size zArr _ 36 rfl rfl (heap_alloc_last _ _) (by rw [secV_size, zpad_length _ _ hl]; exact size_sec) (by rw [secV_size, zpad_length _ _ hl, zArr_size]) (sec_one _) ?_))
  rw [World.setRow_alloc_new]
  have hld := run_loadVar_new (P := Try.prog) w 36 (bvs (zpad 128 l)).toArray 128 5 Try.underlying36 (by rw [secV_size, zpad_length _ _ hl]; exact size_sec)
  exact bodyPost_ret (v := .tuple #[secV (zpad 128 l), .int .i64 0]) (results_cell2 Try.results52 rfl rfl hld) rfl ⟨rfl, (Below.refl _ _).alloc (Nat.le_refl _) _⟩
end Go.Proofs.Ytcpfafmkhegckaa
