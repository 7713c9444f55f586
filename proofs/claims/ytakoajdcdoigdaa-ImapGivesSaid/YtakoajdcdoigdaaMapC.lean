/-
  The inode map's functions, walked: Alloc, given, Link, Release, Get.
-/
import Derived.Test.YtakoajdcdoigdaaMapB
import Derived.Deep.DeepCutAuto
import Derived.Deep.CutBlock
import Derived.Deep.QuietTactic
import Derived.BigQuiet
namespace Go.Proofs.Ytakoajdcdoigdaa
open Go.RowKit
set_option linter.unusedVariables false
set_option linter.unusedSimpArgs false
/-- What Alloc comes to where a number is free. -/
def AllocTo (w : World) (p g c : Nat) (L : List Sl) (i : Nat) (vn : Nat) (kind : Int) (e : Ending) (w' : World) : Prop :=
  e = .returned (.tuple #[.int .i64 ((i : Int) + 1), .int .u32 (vn : Int), .int .i64 0]) ∧ MapAt w' p g c (L.set i ⟨0, vn, 0, kind⟩) ∧ Keep (· = g) w w'
theorem u32_wrap (n : Nat) : IntKind.u32.wrap ((n : Int) + 1) = (((n + 1) % 4294967296 : Nat) : Int) := by
  simp [IntKind.wrap, IntKind.bits, IntKind.signed]
set_option maxHeartbeats 2000000 in
set_option maxRecDepth 10000 in
theorem ialloc_yes (p g c : Nat) (L : List Sl) (i : Nat) (s : Sl) (kind : Int) (w : World) (h : MapAt w p g c L) (hL : L.length ≤ 200) (hk : kind = 1 ∨ kind = 2) (hi : mFree L = some i) (hs : L[i]? = some s) :
    Calls Try.prog 9 #[.pointer (some ⟨p, 0, none⟩), .int .i64 kind] w (AllocTo w p g c L i ((s.ver + 1) % 4294967296) kind) := by
  have hc := h.head
  have hlt : i < L.length := (List.getElem?_eq_some_iff.1 hs).1
  have hle := h.le
  have HI := Lib.hid (iindex_any p g c L w h hL)
  have hfi : freeI L = (i : Int) := by unfold freeI; rw [hi]
  rw [hfi] at HI
  have HM := Lib.hid h
  have HS := Lib.hid hs
  have HLE := Lib.hid hle
  clear h hi hs hfi hle
  have hmf : ∀ (fn : Fn) (first cap : Array Value) (w : World), (Instr.makeFunc fn first cap).run Try.prog w = .ok (.func fn first cap) w := fun _ _ _ _ => rfl
  have hw33 := u32_wrap s.ver
  have hwi : wrap64 ((i : Int) + 1) = (i : Int) + 1 := by rw [← i64_w]; exact IntWalk.i64_in _ (by omega)
  have hwi' : IntKind.i64.wrap ((i : Int) + 1) = (i : Int) + 1 := IntWalk.i64_in _ (by omega)
  obtain ⟨vn, hvn⟩ : ∃ vn, vn = (s.ver + 1) % 4294967296 := ⟨_, rfl⟩
  rw [← hvn] at hw33 ⊢
  clear hvn
  rcases hk with rfl | rfl
  · go_enter Try.func9, Try.ntmps9
    go_upto_region 6 with (go_at_call 21; go_must (refine HI.out.mono ?_; rintro e w1 ⟨rfl, hb1⟩; have HM1 := Lib.hid (HM.out.below hb1); have HB1 := Lib.hid hb1; clear hb1))
    clear hc
    have hc := HM1.out.head
    obtain ⟨c0, c1, c2, c3⟩ := HM1.out.slot i s HS.out
    have e0 : w1.frozen? ⟨g, i * 4, none⟩ = false := RawAt.free HM1.out.2.2 _
    have e1 : w1.frozen? ⟨g, i * 4 + 1, none⟩ = false := RawAt.free HM1.out.2.2 _
    have e2 : w1.frozen? ⟨g, i * 4 + 2, none⟩ = false := RawAt.free HM1.out.2.2 _
    have e3 : w1.frozen? ⟨g, i * 4 + 3, none⟩ = false := RawAt.free HM1.out.2.2 _
    go_still_tail 17, (by kernel_rfl)
    change wpList _ _ _ _ _ w1.drew
    go_upto_region 7 with fail
    have hM2 := MapAt.store HM1.out i ⟨0, vn, 0, 1⟩ hlt
    have hK2 := Keep.drew (((((Keep.of_below (F := (· = g)) HB1.out).setCell g (i * 4) (.int .i64 0) rfl).setCell g (i * 4 + 1) (.int .u32 (vn : Int)) rfl).setCell g (i * 4 + 2) (.int .i64 0) rfl).setCell g (i * 4 + 3) (.int .i64 1) rfl)
    dsimp only at hM2
    clear hc c0 c1 c2 c3 e0 e1 e2 e3
    revert hM2 hK2
    generalize (((w1.setCell ⟨g, i * 4, none⟩ (.int .i64 0)).setCell ⟨g, i * 4 + 1, none⟩ (.int .u32 (vn : Int))).setCell ⟨g, i * 4 + 2, none⟩ (.int .i64 0)).setCell ⟨g, i * 4 + 3, none⟩ (.int .i64 1) = w2
    intro hM2 hK2
    have hc := hM2.head
    rw [List.length_set] at hc
    obtain ⟨c0, c1, c2, c3⟩ := hM2.slot i ⟨0, vn, 0, 1⟩ (by rw [List.getElem?_set_self hlt])
    dsimp only at c0 c1 c2 c3
    have HM2 := Lib.hid hM2
    have HK2 := Lib.hid hK2
    clear hM2 hK2
    have hc' : w2.drew.cell? ⟨p, 0, none⟩ = some (.slice (some ⟨g, 0, none⟩) L.length c) := hc
    have c1' : w2.drew.cell? ⟨g, i * 4 + 1, none⟩ = some (.int .u32 (vn : Int)) := c1
    go_quiet (fail)
    go_wp2
    go_ret3
    exact ⟨rfl, HM2.out, HK2.out.drewN _⟩
  · go_enter Try.func9, Try.ntmps9
    go_upto_region 6 with (go_at_call 21; go_must (refine HI.out.mono ?_; rintro e w1 ⟨rfl, hb1⟩; have HM1 := Lib.hid (HM.out.below hb1); have HB1 := Lib.hid hb1; clear hb1))
    clear hc
    have hc := HM1.out.head
    obtain ⟨c0, c1, c2, c3⟩ := HM1.out.slot i s HS.out
    have e0 : w1.frozen? ⟨g, i * 4, none⟩ = false := RawAt.free HM1.out.2.2 _
    have e1 : w1.frozen? ⟨g, i * 4 + 1, none⟩ = false := RawAt.free HM1.out.2.2 _
    have e2 : w1.frozen? ⟨g, i * 4 + 2, none⟩ = false := RawAt.free HM1.out.2.2 _
    have e3 : w1.frozen? ⟨g, i * 4 + 3, none⟩ = false := RawAt.free HM1.out.2.2 _
    go_still_tail 17, (by kernel_rfl)
    change wpList _ _ _ _ _ w1.drew
    go_upto_region 7 with fail
    have hM2 := MapAt.store HM1.out i ⟨0, vn, 0, 2⟩ hlt
    have hK2 := Keep.drew (((((Keep.of_below (F := (· = g)) HB1.out).setCell g (i * 4) (.int .i64 0) rfl).setCell g (i * 4 + 1) (.int .u32 (vn : Int)) rfl).setCell g (i * 4 + 2) (.int .i64 0) rfl).setCell g (i * 4 + 3) (.int .i64 2) rfl)
    dsimp only at hM2
    clear hc c0 c1 c2 c3 e0 e1 e2 e3
    revert hM2 hK2
    generalize (((w1.setCell ⟨g, i * 4, none⟩ (.int .i64 0)).setCell ⟨g, i * 4 + 1, none⟩ (.int .u32 (vn : Int))).setCell ⟨g, i * 4 + 2, none⟩ (.int .i64 0)).setCell ⟨g, i * 4 + 3, none⟩ (.int .i64 2) = w2
    intro hM2 hK2
    have hc := hM2.head
    rw [List.length_set] at hc
    obtain ⟨c0, c1, c2, c3⟩ := hM2.slot i ⟨0, vn, 0, 2⟩ (by rw [List.getElem?_set_self hlt])
    dsimp only at c0 c1 c2 c3
    have HM2 := Lib.hid hM2
    have HK2 := Lib.hid hK2
    clear hM2 hK2
    have hc' : w2.drew.cell? ⟨p, 0, none⟩ = some (.slice (some ⟨g, 0, none⟩) L.length c) := hc
    have c1' : w2.drew.cell? ⟨g, i * 4 + 1, none⟩ = some (.int .u32 (vn : Int)) := c1
    go_quiet (fail)
    go_wp2
    go_ret3
    exact ⟨rfl, HM2.out, HK2.out.drewN _⟩
theorem ialloc_kind (p : Nat) (kind : Int) (w : World) (h1 : kind ≠ 1) (h2 : kind ≠ 2) :
    Calls Try.prog 9 #[.pointer (some ⟨p, 0, none⟩), .int .i64 kind] w fun e w' => e = .returned (.tuple #[.int .i64 0, .int .u32 0, .int .i64 1]) ∧ w = w' := by
  have k1 : (kind != 1) = true := by simpa using h1
  have k2 : (kind != 2) = true := by simpa using h2
  go_enter Try.func9, Try.ntmps9
  go_wp2
  go_ret3
  exact ⟨rfl, rfl⟩
theorem ialloc_none (p g c : Nat) (L : List Sl) (kind : Int) (w : World) (h : MapAt w p g c L) (hL : L.length ≤ 200) (hk : kind = 1 ∨ kind = 2) (hi : mFree L = none) :
    Calls Try.prog 9 #[.pointer (some ⟨p, 0, none⟩), .int .i64 kind] w fun e w' => e = .returned (.tuple #[.int .i64 0, .int .u32 0, .int .i64 11]) ∧ Below w.heap.size w w' := by
  have hc := h.head
  have HI := Lib.hid (iindex_any p g c L w h hL)
  have hfi : freeI L = -1 := by unfold freeI; rw [hi]
  rw [hfi] at HI
  clear h hi hfi
  have hmf : ∀ (fn : Fn) (first cap : Array Value) (w : World), (Instr.makeFunc fn first cap).run Try.prog w = .ok (.func fn first cap) w := fun _ _ _ _ => rfl
  rcases hk with rfl | rfl
  all_goals
    go_enter Try.func9, Try.ntmps9
    go_wp2_with (go_at_call 21; go_must (refine HI.out.mono ?_; rintro e w1 ⟨rfl, hb1⟩; have HB1 := Lib.hid hb1; clear hb1))
    go_ret3
    exact ⟨rfl, HB1.out⟩
/-- given: the slot of a number that isn't free. -/
theorem igiven_no (p g c : Nat) (L : List Sl) (num : Int) (w : World) (h : MapAt w p g c L) (hn : num < 1 ∨ (L.length : Int) < num) :
    Calls Try.prog 20 #[.pointer (some ⟨p, 0, none⟩), .int .i64 num] w fun e w' => e = .returned (.tuple #[.pointer none, .int .i64 1]) ∧ w = w' := by
  have HH := Lib.hid (ihas_no p g c L num w h hn)
  clear h hn
  go_enter Try.func20, Try.ntmps20
  go_wp2_with (go_at_call 24; go_must (refine HH.out.mono ?_; rintro e w1 ⟨rfl, rfl⟩))
  go_ret2
  exact ⟨rfl, rfl⟩
theorem igiven_free (p g c : Nat) (L : List Sl) (i : Nat) (s : Sl) (w : World) (h : MapAt w p g c L) (hL : L.length ≤ 200) (hs : L[i]? = some s) (hk : s.kind = 0) :
    Calls Try.prog 20 #[.pointer (some ⟨p, 0, none⟩), .int .i64 ((i : Int) + 1)] w fun e w' => e = .returned (.tuple #[.pointer none, .int .i64 4]) ∧ w = w' := by
  have hlt : i < L.length := (List.getElem?_eq_some_iff.1 hs).1
  have HH := Lib.hid (ihas_yes p g c L i w h hlt)
  have hc := h.head
  have hle := h.le
  obtain ⟨c0, c1, c2, c3⟩ := h.slot i s hs
  rw [hk] at c3
  clear h hs hk
  go_enter Try.func20, Try.ntmps20
  go_wp2_with (go_at_call 24; go_must (refine HH.out.mono ?_; rintro e w1 ⟨rfl, rfl⟩))
  go_ret2
  exact ⟨rfl, rfl⟩
theorem igiven_yes (p g c : Nat) (L : List Sl) (i : Nat) (s : Sl) (w : World) (h : MapAt w p g c L) (hL : L.length ≤ 200) (hs : L[i]? = some s) (hk : s.kind ≠ 0) :
    Calls Try.prog 20 #[.pointer (some ⟨p, 0, none⟩), .int .i64 ((i : Int) + 1)] w fun e w' => e = .returned (.tuple #[.pointer (some ⟨g, i * 4, none⟩), .int .i64 0]) ∧ w = w' := by
  have hlt : i < L.length := (List.getElem?_eq_some_iff.1 hs).1
  have HH := Lib.hid (ihas_yes p g c L i w h hlt)
  have hc := h.head
  have hle := h.le
  obtain ⟨c0, c1, c2, c3⟩ := h.slot i s hs
  have hk0 : (s.kind == 0) = false := by simpa using hk
  clear h hs hk
  go_enter Try.func20, Try.ntmps20
  go_wp2_with (go_at_call 24; go_must (refine HH.out.mono ?_; rintro e w1 ⟨rfl, rfl⟩))
  go_ret2
  exact ⟨rfl, rfl⟩
end Go.Proofs.Ytakoajdcdoigdaa
