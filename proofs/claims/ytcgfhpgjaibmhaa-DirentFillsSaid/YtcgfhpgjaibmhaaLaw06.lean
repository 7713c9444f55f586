/-
  The fixed fact of law 6; the walk of DirentNames.
-/
import Derived.Test.YtcgfhpgjaibmhaaDirD
import Derived.Deep.DeepCutAuto
import Derived.Deep.CutBlock
namespace Go.Proofs.Ytcgfhpgjaibmhaa
open Go.RowKit
set_option linter.unusedVariables false
set_option linter.unusedSimpArgs false
def awL : List Ent := [(3, ⟨#[97, 98]⟩), (0, ⟨#[]⟩), (0, ⟨#[]⟩), (0, ⟨#[]⟩)]
theorem aw_facts : (dwS awL).length = 128 ∧ (dwS awL).getD 0 0 = 3 ∧ (dwS awL).getD 2 0 = 2 ∧ (dwS awL).getD 4 0 = 98 ∧ dwE awL = 0 ∧ goodE [97, 47, 98] = 1 := by decide +kernel
set_option maxHeartbeats 1000000 in
set_option maxRecDepth 10000 in
theorem awake06 (w : World) : Calls Try.prog 8 #[] w fun e w' => e = .returned (.bool true) ∧ Below w.heap.size w w' := by
  have hz := zero_sec
  obtain ⟨f1, f2, f3, f4, f5, f6⟩ := aw_facts
  have hW := dwrite_any 3 0 0 0 ⟨#[97, 98]⟩ ⟨#[]⟩ ⟨#[]⟩ ⟨#[]⟩ w
  have hG : ∀ w', Calls Try.prog 9 #[.string ⟨#[97, 47, 98]⟩] w' fun e w'' => e = .returned (.int .i64 1) ∧ w' = w'' := fun w' => by
    have q := good_any ⟨#[97, 47, 98]⟩ w'
    rw [show goodE (ByteArray.mk #[97, 47, 98]).data.toList = 1 from f6] at q
    exact q
  change Calls Try.prog 15 _ w (fun e w' => e = .returned (.tuple #[secV (dwS awL), .int .i64 (dwE awL)]) ∧ Below w.heap.size w w') at hW
  rw [f5] at hW
  obtain ⟨m, hm⟩ : ∃ m, m = dwS awL := ⟨_, rfl⟩
  rw [← hm] at hW f1 f2 f3 f4
  have k0 : (bvs m)[0]? = some (.int .u8 3) := by rw [bvs_get _ _ (by omega), f2]; rfl
  have k2 : (bvs m)[2]? = some (.int .u8 2) := by rw [bvs_get _ _ (by omega), f3]; rfl
  have k4 : (bvs m)[4]? = some (.int .u8 98) := by rw [bvs_get _ _ (by omega), f4]; rfl
  have HMS : Hid ((bvs m).toArray.size = 128) := by unfold Hid; rw [secV_size, f1]
  have HW := Lib.hid hW
  have HG := fun w' => Lib.hid (hG w')
  have HK : Hid ((bvs m)[0]? = some (.int .u8 3) ∧ (bvs m)[2]? = some (.int .u8 2) ∧ (bvs m)[4]? = some (.int .u8 98)) := ⟨k0, k2, k4⟩
  clear hW hG hm f1 f2 f3 f4 f5 f6 k0 k2 k4
  unfold secV entsV at HW
  go_enter Try.func8, Try.ntmps8
  go_upto_region 2 with (first
    | (go_at_call 15; go_must (refine HW.out.mono ?_; rintro e w2 ⟨rfl, hb2⟩; have HB2 := Lib.hid hb2; clear hb2))
    | (refine wpList_store_row rfl 37 (.tmp 1) (.tmp 7) rfl w2.heap.size zArr (bvs m).toArray 37 rfl rfl (heap_alloc_last _ _) (by rw [HMS.out]; exact size_sec) (by rw [HMS.out, zArr_size]) (sec_one _) ?_))
  rw [World.setRow_alloc_new]
  have hS := heap_alloc_last w2 (.cells (bvs m).toArray 37 (0, 0))
  have hB := HB2.out.alloc HB2.out.size (.cells (bvs m).toArray 37 (0, 0))
  revert hS hB
  generalize w2.alloc (.cells (bvs m).toArray 37 (0, 0)) = w3
  intro hS hB
  have c0 : w3.cell? ⟨w2.heap.size, 0, none⟩ = some (.int .u8 3) := by rw [cell_row hS, List.getElem?_toArray]; exact HK.out.1
  have c2 : w3.cell? ⟨w2.heap.size, 2, none⟩ = some (.int .u8 2) := by rw [cell_row hS, List.getElem?_toArray]; exact HK.out.2.1
  have c4 : w3.cell? ⟨w2.heap.size, 4, none⟩ = some (.int .u8 98) := by rw [cell_row hS, List.getElem?_toArray]; exact HK.out.2.2
  have HB := Lib.hid hB
  clear hS hB HB2 HW
  go_wp2_with (go_at_call 9; go_must (refine (HG _).out.mono ?_; rintro e w4 ⟨rfl, rfl⟩))
  go_ret
  exact ⟨rfl, HB.out⟩
set_option maxHeartbeats 1000000 in
set_option maxRecDepth 10000 in
theorem direntNames_walk (s : ByteArray) (w : World) (hn : s.size ≤ 140737488351232) :
    Calls Try.prog 3 #[.string s] w fun e w' => e = .returned (.bool true) ∧ Below w.heap.size w w' := by
  go_enter Try.func3, Try.ntmps3
  go_upto_if 7 with (go_at_call 8; refine (awake06 _).mono ?_; rintro e w1 ⟨rfl, hb1⟩)
  have HB1 := Lib.hid hb1
  clear hb1
  go_cut [0] (fun v wc => ∃ s' : ByteArray, v = .string s' ∧ s'.size ≤ 140737488351232 ∧ w1 = wc)
  case first =>
    by_cases hlen : 300 < s.size
    · go_wp2
      go_meet
      case rel => exact ⟨_, rfl, by rw [ByteArray.size_extract]; omega, rfl⟩
    · go_wp2
      go_meet
      case rel => exact ⟨s, rfl, hn, rfl⟩
  case rest =>
  obtain ⟨s', rfl, hn', rfl⟩ := hcut
  have H1 := Lib.hid (good_any s' w1)
  have H2 := Lib.hid (rgood_any s' w1 (by omega))
  obtain ⟨ge, hge⟩ : ∃ ge, ge = goodE s'.data.toList := ⟨_, rfl⟩
  rw [← hge] at H1 H2
  clear hge
  go_wp2_with (first
    | (go_at_call 9; go_must (refine H1.out.mono ?_; rintro e w2 ⟨rfl, rfl⟩))
    | (go_at_call 10; go_must (refine H2.out.mono ?_; rintro e w2 ⟨rfl, rfl⟩)))
  go_ret
  exact ⟨by simp, HB1.out⟩
end Go.Proofs.Ytcgfhpgjaibmhaa
