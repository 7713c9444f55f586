/-
  Entries found: Find, Room, Count.
-/
import Derived.Test.YtcgfhpgjaibmhaaDirE
namespace Go.Proofs.Ytcgfhpgjaibmhaa
open Go.RowKit
set_option linter.unusedVariables false
set_option linter.unusedSimpArgs false
def eAt (E : List Ent) (i : Nat) : Ent := E.getD i (0, .empty)
/-- Entries that lie in a row. -/
def EntsAt (w : World) (g : Nat) (E : List Ent) : Prop := ∀ i, i < 4 → w.cell? ⟨g, i * 2, none⟩ = some (.int .i64 (eAt E i).1) ∧ w.cell? ⟨g, i * 2 + 1, none⟩ = some (.string (eAt E i).2)
theorem EntsAt.below {w w' : World} {g : Nat} {E : List Ent} (h : EntsAt w g E) (hb : Below w.heap.size w w') : EntsAt w' g E := fun i hi =>
  ⟨(hb.cell (World.block_lt_of_cell? w _ (h i hi).1)).trans (h i hi).1, (hb.cell (World.block_lt_of_cell? w _ (h i hi).2)).trans (h i hi).2⟩
/-- The first of the last k entries. -/
def ff (pr : Ent → Bool) (E : List Ent) : Nat → Int
  | 0 => -1
  | k + 1 => if pr (eAt E (3 - k)) then ((3 - k : Nat) : Int) else ff pr E k
def prRoom (e : Ent) : Bool := e.1 == 0
def prFind (s : ByteArray) (e : Ent) : Bool := !(e.1 == 0) && (e.2.toList == s.toList)
set_option maxHeartbeats 400000 in
theorem findCl_any (n : Int) (s t : ByteArray) (b : Nat) (w : World) (hc : w.cell? ⟨b, 0, none⟩ = some (.string t)) :
    Calls Try.prog 22 #[.agg #[.int .i64 n, .string s], .pointer (some ⟨b, 0, none⟩)] w (RetT w (prFind t (n, s))) := by
  have hbox := (Below.refl w.heap.size w).alloc (Nat.le_refl _) (.cells #[.int .i64 n, .string s] 30 (0, 0))
  have hc' : (w.alloc (.cells #[.int .i64 n, .string s] 30 (0, 0))).cell? ⟨b, 0, none⟩ = some (.string t) := (hbox.cell (p := ⟨b, 0, none⟩) (World.block_lt_of_cell? w _ hc)).trans hc
  obtain ⟨q, hq⟩ : ∃ q, q = (s.toList == t.toList) := ⟨_, rfl⟩
  have hpr : prFind t (n, s) = (!(n == 0) && q) := by unfold prFind; rw [hq]
  have HPR := Lib.hid hpr
  have HB := Lib.hid hbox
  clear hpr hbox hc
  by_cases h0 : n = 0
  · subst h0
    go_enter Try.func22, Try.ntmps22
    go_wp2
    go_ret
    exact ⟨by rw [HPR.out]; rfl, HB.out⟩
  · have h0' : (n != 0) = true := by simpa using h0
    have h0'' : (n == 0) = false := by simpa using h0
    go_enter Try.func22, Try.ntmps22
    go_wp2
    go_ret
    exact ⟨by rw [HPR.out, h0'']; simp [hq], HB.out⟩
set_option maxHeartbeats 400000 in
theorem roomCl_any (n : Int) (s : ByteArray) (w : World) :
    Calls Try.prog 23 #[.agg #[.int .i64 n, .string s]] w (RetT w (prRoom (n, s))) := by
  have hbox := (Below.refl w.heap.size w).alloc (Nat.le_refl _) (.cells #[.int .i64 n, .string s] 30 (0, 0))
  have HB := Lib.hid hbox
  clear hbox
  go_enter Try.func23, Try.ntmps23
  go_wp2
  go_ret
  exact ⟨rfl, HB.out⟩
theorem ff_step (pr : Ent → Bool) (E : List Ent) (j : Nat) (hj : j < 4) : ff pr E (4 - j) = if pr (eAt E j) then (j : Int) else ff pr E (4 - (j + 1)) := by
  obtain ⟨k, hk⟩ : ∃ k, 4 - j = k + 1 := ⟨3 - j, by omega⟩
  rw [hk, ff, show 3 - k = j by omega, show 4 - (j + 1) = k by omega]
set_option maxHeartbeats 1000000 in
set_option maxRecDepth 10000 in
theorem indexFind_any (g b : Nat) (t : ByteArray) (E : List Ent) (w : World) (hE : EntsAt w g E) (hc : w.cell? ⟨b, 0, none⟩ = some (.string t)) :
    Calls Try.prog 21 #[.slice (some ⟨g, 0, none⟩) 4 4, .func (.func 22) #[] #[.pointer (some ⟨b, 0, none⟩)]] w (RetN w (ff (prFind t) E 4)) := by
  have HE := Lib.hid hE
  have HC := Lib.hid hc
  obtain ⟨F, hF⟩ : ∃ F, F = ff (prFind t) E := ⟨_, rfl⟩
  have HF : Hid (∀ j, j < 4 → F (4 - j) = if prFind t (eAt E j) then (j : Int) else F (4 - (j + 1))) := by rw [hF]; exact fun j hj => ff_step _ E j hj
  have HF0 : Hid (F 0 = -1) := by rw [hF]; exact rfl
  rw [← hF]
  clear hE hc hF
  go_enter Try.func21, Try.ntmps21
  go_wp2
  go_loopw [5, 8] (fun _ i wr => ∃ j : Nat, j ≤ 4 ∧ i = .int .i64 j ∧ Hid (F 4 = F (4 - j)) ∧ Hid (Below w.heap.size w wr)) (fun _ i _ => (4 - intOf i).toNat)
  case atStart => exact ⟨0, by omega, by rfl, Lib.hid rfl, Lib.hid (Below.refl _ _)⟩
  case round =>
    obtain ⟨j, hj, rfl, HJ, HB⟩ := hrel
    by_cases hlt : j < 4
    · obtain ⟨c0, c1⟩ := (HE.out.below HB.out) j hlt
      have hcc := (HB.out.cell (p := ⟨b, 0, none⟩) (World.block_lt_of_cell? w _ HC.out)).trans HC.out
      have hst := HF.out j hlt
      obtain ⟨n, hn⟩ : ∃ n, n = (eAt E j).1 := ⟨_, rfl⟩
      obtain ⟨s, hs⟩ : ∃ s, s = (eAt E j).2 := ⟨_, rfl⟩
      have hp : prFind t (eAt E j) = prFind t (n, s) := by rw [hn, hs]
      rw [hp] at hst
      rw [← hn] at c0
      rw [← hs] at c1
      have HCL := Lib.hid (findCl_any n s t b wr hcc)
      obtain ⟨pb, hpb⟩ : ∃ pb, pb = prFind t (n, s) := ⟨_, rfl⟩
      rw [← hpb] at hst HCL
      have HST := Lib.hid hst
      clear hst hn hs hp hpb hcc
      go_wp2_with (go_at_call 22; go_must (refine HCL.out.mono ?_; rintro e w1 ⟨rfl, hb1⟩; have HB1 := Lib.hid (bnext HB.out hb1); clear hb1))
      · have hp : pb = true := by assumption
        go_ret
        have h2 := HST.out
        rw [hp, if_pos rfl] at h2
        exact ⟨by rw [HJ.out, h2]; rfl, HB1.out⟩
      · have hp : pb = false := by assumption
        have h2 := HST.out
        rw [hp, if_neg (by simp)] at h2
        exact ⟨⟨j + 1, by omega, by go_num, Lib.hid (by rw [HJ.out, h2]), HB1⟩, by simp [intOf]; omega⟩
    · obtain rfl : j = 4 := by omega
      go_wp2
      go_ret
      exact ⟨by rw [HJ.out, HF0.out]; rfl, HB.out⟩
set_option maxHeartbeats 1000000 in
set_option maxRecDepth 10000 in
theorem indexRoom_any (g : Nat) (E : List Ent) (w : World) (hE : EntsAt w g E) :
    Calls Try.prog 21 #[.slice (some ⟨g, 0, none⟩) 4 4, .func (.func 23) #[] #[]] w (RetN w (ff (prRoom) E 4)) := by
  have HE := Lib.hid hE
  obtain ⟨F, hF⟩ : ∃ F, F = ff (prRoom) E := ⟨_, rfl⟩
  have HF : Hid (∀ j, j < 4 → F (4 - j) = if prRoom (eAt E j) then (j : Int) else F (4 - (j + 1))) := by rw [hF]; exact fun j hj => ff_step _ E j hj
  have HF0 : Hid (F 0 = -1) := by rw [hF]; exact rfl
  rw [← hF]
  clear hE hF
  go_enter Try.func21, Try.ntmps21
  go_wp2
  go_loopw [5, 8] (fun _ i wr => ∃ j : Nat, j ≤ 4 ∧ i = .int .i64 j ∧ Hid (F 4 = F (4 - j)) ∧ Hid (Below w.heap.size w wr)) (fun _ i _ => (4 - intOf i).toNat)
  case atStart => exact ⟨0, by omega, by rfl, Lib.hid rfl, Lib.hid (Below.refl _ _)⟩
  case round =>
    obtain ⟨j, hj, rfl, HJ, HB⟩ := hrel
    by_cases hlt : j < 4
    · obtain ⟨c0, c1⟩ := (HE.out.below HB.out) j hlt
      have hst := HF.out j hlt
      obtain ⟨n, hn⟩ : ∃ n, n = (eAt E j).1 := ⟨_, rfl⟩
      obtain ⟨s, hs⟩ : ∃ s, s = (eAt E j).2 := ⟨_, rfl⟩
      have hp : prRoom (eAt E j) = prRoom (n, s) := by rw [hn, hs]
      rw [hp] at hst
      rw [← hn] at c0
      rw [← hs] at c1
      have HCL := Lib.hid (roomCl_any n s wr)
      obtain ⟨pb, hpb⟩ : ∃ pb, pb = prRoom (n, s) := ⟨_, rfl⟩
      rw [← hpb] at hst HCL
      have HST := Lib.hid hst
      clear hst hn hs hp hpb
      go_wp2_with (go_at_call 23; go_must (refine HCL.out.mono ?_; rintro e w1 ⟨rfl, hb1⟩; have HB1 := Lib.hid (bnext HB.out hb1); clear hb1))
      · have hp : pb = true := by assumption
        go_ret
        have h2 := HST.out
        rw [hp, if_pos rfl] at h2
        exact ⟨by rw [HJ.out, h2]; rfl, HB1.out⟩
      · have hp : pb = false := by assumption
        have h2 := HST.out
        rw [hp, if_neg (by simp)] at h2
        exact ⟨⟨j + 1, by omega, by go_num, Lib.hid (by rw [HJ.out, h2]), HB1⟩, by simp [intOf]; omega⟩
    · obtain rfl : j = 4 := by omega
      go_wp2
      go_ret
      exact ⟨by rw [HJ.out, HF0.out]; rfl, HB.out⟩
def entsL (n0 n1 n2 n3 : Int) (s0 s1 s2 s3 : ByteArray) : List Ent := [(n0, s0), (n1, s1), (n2, s2), (n3, s3)]
theorem entsAt_row {w : World} {g : Nat} {t : TypeId} {f : Nat × Nat} {n0 n1 n2 n3 : Int} {s0 s1 s2 s3 : ByteArray} (h : w.heap[g]? = some (.cells #[.int .i64 n0, .string s0, .int .i64 n1, .string s1, .int .i64 n2, .string s2, .int .i64 n3, .string s3] t f)) : EntsAt w g (entsL n0 n1 n2 n3 s0 s1 s2 s3) := fun i hi => by
  match i, hi with
  | 0, _ => exact ⟨cell_row h 0, cell_row h 1⟩
  | 1, _ => exact ⟨cell_row h 2, cell_row h 3⟩
  | 2, _ => exact ⟨cell_row h 4, cell_row h 5⟩
  | 3, _ => exact ⟨cell_row h 6, cell_row h 7⟩
set_option maxHeartbeats 1000000 in
theorem room_any (n0 n1 n2 n3 : Int) (s0 s1 s2 s3 : ByteArray) (w : World) :
    Calls Try.prog 13 #[entsV (n0, s0) (n1, s1) (n2, s2) (n3, s3)] w (RetN w (ff prRoom (entsL n0 n1 n2 n3 s0 s1 s2 s3) 4)) := by
  have hg := heap_alloc_last w (.cells #[.int .i64 n0, .string s0, .int .i64 n1, .string s1, .int .i64 n2, .string s2, .int .i64 n3, .string s3] 31 (0, 0))
  have hb : Below w.heap.size w (w.alloc (.cells #[.int .i64 n0, .string s0, .int .i64 n1, .string s1, .int .i64 n2, .string s2, .int .i64 n3, .string s3] 31 (0, 0))) := (Below.refl _ _).alloc (Nat.le_refl _) _
  have HI := Lib.hid (indexRoom_any w.heap.size (entsL n0 n1 n2 n3 s0 s1 s2 s3) _ (entsAt_row hg))
  have HB := Lib.hid hb
  obtain ⟨F, hF⟩ : ∃ F, F = ff prRoom (entsL n0 n1 n2 n3 s0 s1 s2 s3) 4 := ⟨_, rfl⟩
  rw [← hF] at HI ⊢
  clear hg hb hF
  unfold entsV
  go_enter Try.func13, Try.ntmps13
  go_wp2_with (go_at_call 21; go_must (refine HI.out.mono ?_; rintro e w1 ⟨rfl, hb1⟩))
  go_ret
  exact ⟨rfl, bnext HB.out hb1⟩
set_option maxHeartbeats 1000000 in
theorem find_any (n0 n1 n2 n3 : Int) (s0 s1 s2 s3 t : ByteArray) (w : World) :
    Calls Try.prog 12 #[entsV (n0, s0) (n1, s1) (n2, s2) (n3, s3), .string t] w (RetN w (ff (prFind t) (entsL n0 n1 n2 n3 s0 s1 s2 s3) 4)) := by
  have hmf : ∀ (fn : Fn) (first cap : Array Value) (w : World), (Instr.makeFunc fn first cap).run Try.prog w = .ok (.func fn first cap) w := fun _ _ _ _ => rfl
  have hg := heap_alloc_last w (.cells #[.int .i64 n0, .string s0, .int .i64 n1, .string s1, .int .i64 n2, .string s2, .int .i64 n3, .string s3] 31 (0, 0))
  have hb : Below w.heap.size w (w.alloc (.cells #[.int .i64 n0, .string s0, .int .i64 n1, .string s1, .int .i64 n2, .string s2, .int .i64 n3, .string s3] 31 (0, 0))) := (Below.refl _ _).alloc (Nat.le_refl _) _
  have hs1 : (w.alloc (.cells #[.int .i64 n0, .string s0, .int .i64 n1, .string s1, .int .i64 n2, .string s2, .int .i64 n3, .string s3] 31 (0, 0))).heap.size = w.heap.size + 1 := by simp
  have hg2 := heap_keep hg ((Below.refl _ _).alloc (Nat.le_refl _) (.cells #[.string t] 9 (0, 0)))
  have hc2 := cell_row (heap_alloc_last (w.alloc (.cells #[.int .i64 n0, .string s0, .int .i64 n1, .string s1, .int .i64 n2, .string s2, .int .i64 n3, .string s3] 31 (0, 0))) (.cells #[.string t] 9 (0, 0))) 0
  rw [hs1] at hc2
  have HI := Lib.hid (indexFind_any w.heap.size (w.heap.size + 1) t (entsL n0 n1 n2 n3 s0 s1 s2 s3) _ (entsAt_row hg2) hc2)
  have HB := Lib.hid (hb.alloc hb.size (.cells #[.string t] 9 (0, 0)))
  obtain ⟨F, hF⟩ : ∃ F, F = ff (prFind t) (entsL n0 n1 n2 n3 s0 s1 s2 s3) 4 := ⟨_, rfl⟩
  rw [← hF] at HI ⊢
  clear hg hb hF hs1 hg2 hc2
  unfold entsV
  go_enter Try.func12, Try.ntmps12
  go_wp2_with (go_at_call 21; go_must (refine HI.out.mono ?_; rintro e w1 ⟨rfl, hb1⟩))
  go_ret
  exact ⟨rfl, bnext HB.out hb1⟩
end Go.Proofs.Ytcgfhpgjaibmhaa
