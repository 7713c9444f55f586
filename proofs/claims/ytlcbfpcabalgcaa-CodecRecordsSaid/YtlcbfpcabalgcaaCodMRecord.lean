/-
  Codec: lists of records: may they be, as sectors, and back.
-/
import Derived.Test.YtlcbfpcabalgcaaCodLRecord
import Derived.Test.YtlcbfpcabalgcaaCodN
import Derived.Laws.EntriesVeiled
namespace Go.Proofs.Ytlcbfpcabalgcaa
open Go.RowKit
set_option linter.unusedVariables false
set_option linter.unusedSimpArgs false
set_option linter.unnecessarySimpa false
def recordMay (x : Rcd) : Bool := decide (0 ≤ x.kind ∧ x.kind ≤ 2)
set_option maxRecDepth 10000 in
set_option maxHeartbeats 4000000 in
theorem recordMay_any (x : Rcd) (w : World) : Calls Try.prog 98 #[.agg x.cells.toArray] w fun e w' => e = .returned (.bool (recordMay x)) ∧ Below w.heap.size w w' := by
  obtain ⟨y0, y1, y2, y3⟩ := x
  have hc : (Rcd.mk y0 y1 y2 y3).cells.toArray = #[.int .u32 (y0 : Int), .int .u32 (y1 : Int), .int .i64 y2, .int .i64 y3] := rfl
  rw [hc]
  have HA := fun w' => Lib.hid (among_any y3 0 2 w')
  obtain ⟨m, hm⟩ : ∃ m, recordMay ⟨y0, y1, y2, y3⟩ = m := ⟨_, rfl⟩
  have hm' : decide (0 ≤ y3 ∧ y3 ≤ 2) = m := hm
  rw [hm'] at HA
  rw [hm]
  have HB := Lib.hid (show Below w.heap.size w (w.alloc (.cells #[.int .u32 (y0 : Int), .int .u32 (y1 : Int), .int .i64 y2, .int .i64 y3] 91 (0, 0))) from (Below.refl _ _).alloc (Nat.le_refl _) _)
  clear hm hm' hc
  go_enter Try.func98, Try.ntmps98
  go_wp2_with (go_at_call 61; refine (HA _).out.mono ?_; rintro e w' ⟨rfl, rfl⟩)
  go_ret
  exact ⟨rfl, HB.out⟩
/-- May all of them be, and are they few enough? -/
def recordsMay (L : List Rcd) : Bool := L.all recordMay && decide (L.length ≤ 13)
set_option maxRecDepth 10000 in
set_option maxHeartbeats 8000000 in
theorem recordEach_any (L : List Rcd) (A : Option Addr) (c p1 p2 : Nat) (w : World) (hf : w.cell? ⟨p1, 0, none⟩ = some (.func (.func 98) #[] #[])) (hm : w.cell? ⟨p2, 0, none⟩ = some (.int .i64 13)) (hR : ReadAt w A Rcd.cells 4 L) (hL : L.length ≤ 140737488355328) :
    Calls Try.prog 110 #[.slice A L.length c, .pointer (some ⟨p1, 0, none⟩), .pointer (some ⟨p2, 0, none⟩)] w fun e w' => e = .returned (.bool (recordsMay L)) ∧ Below w.heap.size w w' := by
  have hp1 := World.block_lt_of_cell? w _ hf
  have hp2 := World.block_lt_of_cell? w _ hm
  dsimp only at hp1 hp2
  have HF := Lib.hid hf
  have HM := Lib.hid hm
  have HR := Lib.hid hR
  have HMA := fun x W => Lib.hid (recordMay_any x W)
  clear hf hm hR
  go_enter Try.func110, Try.ntmps110
  go_wp2
  go_loopw [9] (fun i wr => ∃ k : Nat, k ≤ L.length ∧ i = .int .i64 (k : Int) ∧ Hid ((L.take k).all recordMay = true) ∧ Hid (Below w.heap.size w wr)) (fun i _ => (L.length - intOf i).toNat)
  case atStart => exact ⟨0, by omega, rfl, Lib.hid rfl, Lib.hid (Below.refl _ _)⟩
  case round =>
    obtain ⟨k, hk, rfl, HK, HB⟩ := hrel
    have hf := (HB.out.cell (p := ⟨p1, 0, none⟩) hp1).trans HF.out
    have hm := (HB.out.cell (p := ⟨p2, 0, none⟩) hp2).trans HM.out
    by_cases hlt : k < L.length
    · obtain ⟨x, hx⟩ : ∃ x, L[k]? = some x := ⟨_, List.getElem?_eq_getElem hlt⟩
      obtain ⟨b, o, rfl, hr⟩ := rows_at Rcd.cells_len HR.out hx
      have hbl : b < w.heap.size := World.block_lt_of_cell? w ⟨b, o + k * 4 + 0, none⟩ (hr 0 _ rfl)
      have hr2 : wr.rangeAt b (o + k * 4) x.cells := fun j u hu => (HB.out.cell (p := ⟨b, o + k * 4 + j, none⟩) hbl).trans (hr j u hu)
      have HX := Lib.hid hx
      obtain ⟨y0, y1, y2, y3⟩ := x
      have e0 : wr.cell? ⟨b, o + k * 4, none⟩ = some (.int .u32 (y0 : Int)) := hr2 0 _ rfl
      have e1 : wr.cell? ⟨b, o + k * 4 + 1, none⟩ = some (.int .u32 (y1 : Int)) := hr2 1 _ rfl
      have e2 : wr.cell? ⟨b, o + k * 4 + 2, none⟩ = some (.int .i64 y2) := hr2 2 _ rfl
      have e3 : wr.cell? ⟨b, o + k * 4 + 3, none⟩ = some (.int .i64 y3) := hr2 3 _ rfl
      have hmx := fun W => (HMA ⟨y0, y1, y2, y3⟩ W)
      have hcc : (Rcd.mk y0 y1 y2 y3).cells.toArray = #[.int .u32 (y0 : Int), .int .u32 (y1 : Int), .int .i64 y2, .int .i64 y3] := rfl
      obtain ⟨q, hq⟩ : ∃ q, recordMay ⟨y0, y1, y2, y3⟩ = q := ⟨_, rfl⟩
      simp only [hcc, hq] at hmx
      have HQ := Lib.hid hq
      have hba : Below wr.heap.size wr (wr.alloc (.cells #[.int .u32 (y0 : Int), .int .u32 (y1 : Int), .int .i64 y2, .int .i64 y3] 91 (0, 0))) := (Below.refl _ _).alloc (Nat.le_refl _) _
      have HBA := Lib.hid (HB.out.trans (hba.mono HB.out.size))
      have hf2 := (hba.cell (p := ⟨p1, 0, none⟩) (Nat.lt_of_lt_of_le hp1 HB.out.size)).trans hf
      have hm2 := (hba.cell (p := ⟨p2, 0, none⟩) (Nat.lt_of_lt_of_le hp2 HB.out.size)).trans hm
      clear hr hr2 hx hcc hq hba
      cases q with
      | true =>
        go_wp2_with (go_at_call 98; go_must (refine (hmx _).out.mono ?_; rintro e w2 ⟨rfl, hb2⟩; have HB2 := Lib.hid (HBA.out.trans (hb2.mono HBA.out.size)); clear hb2))
        have HK2 : Hid ((L.take (k + 1)).all recordMay = true) := Lib.hid (by
          obtain ⟨hk3, e3⟩ := List.getElem?_eq_some_iff.1 HX.out
          rw [List.take_succ_eq_append_getElem hk3, List.all_append, HK.out, e3]
          simp [HQ.out])
        go_roundw
        case rel => exact ⟨k + 1, by omega, by go_num, HK2, HB2⟩
        case measure => simp [intOf]; omega
      | false =>
        have hno : recordsMay L = false := by
          unfold recordsMay
          have : L.all recordMay = false := by rw [List.all_eq_false]; exact ⟨_, List.mem_of_getElem? HX.out, by rw [HQ.out]; simp⟩
          rw [this]; rfl
        have HNO := Lib.hid hno
        clear hno
        go_wp2_with (go_at_call 98; go_must (refine (hmx _).out.mono ?_; rintro e w2 ⟨rfl, hb2⟩; have HB2 := Lib.hid (HBA.out.trans (hb2.mono HBA.out.size)); clear hb2))
        go_ret
        exact ⟨by rw [HNO.out]; rfl, HB2.out⟩
    · obtain rfl : k = L.length := by omega
      have hall := HK.out
      rw [List.take_length] at hall
      have hyes : recordsMay L = decide ((L.length : Int) ≤ 13) := by unfold recordsMay; rw [hall, Bool.true_and, decide_eq_decide]; omega
      have HYES := Lib.hid hyes
      clear hall hyes
      go_wp2
      go_ret
      exact ⟨by rw [HYES.out]; rfl, HB.out⟩
set_option maxRecDepth 10000 in
set_option maxHeartbeats 4000000 in
theorem recordsEach_any (f : Value) (hf1 : f.oneCell' = true) (w : World) : Calls Try.prog 97 #[.int .i64 13, f] w fun e w' => e = .returned (.func (.func 110) #[] #[.pointer (some ⟨w.heap.size + 1, 0, none⟩), .pointer (some ⟨w.heap.size, 0, none⟩)]) ∧ w' = (w.alloc (.cells #[.int .i64 13] 3 (0, 0))).alloc (.cells #[f] 204 (0, 0)) := by
  have hmf : ∀ (fn : Fn) (first cap : Array Value) (w : World), (Instr.makeFunc fn first cap).run Try.prog w = .ok (.func fn first cap) w := fun _ _ _ _ => rfl
  go_enter Try.func97, Try.ntmps97
  go_wp2
  go_ret
  exact ⟨rfl, rfl⟩
set_option maxRecDepth 10000 in
set_option maxHeartbeats 4000000 in
theorem recordsMay_any (L : List Rcd) (A : Option Addr) (c : Nat) (w : World) (hR : ReadAt w A Rcd.cells 4 L) (hL : L.length ≤ 140737488355328) :
    Calls Try.prog 76 #[.slice A L.length c] w fun e w' => e = .returned (.bool (recordsMay L)) ∧ Below w.heap.size w w' := by
  have hb2 : Below w.heap.size w ((w.alloc (.cells #[.int .i64 13] 3 (0, 0))).alloc (.cells #[.func (.func 98) #[] #[]] 204 (0, 0))) := ((Below.refl _ _).alloc (Nat.le_refl _) _).alloc (by simp) _
  have hG2 := old_heap (heap_alloc_last w (.cells #[.int .i64 13] 3 (0, 0))) ((Below.refl _ _).alloc (Nat.le_refl _) (.cells #[.func (.func 98) #[] #[]] 204 (0, 0)))
  have hT2 := heap_alloc_last (w.alloc (.cells #[.int .i64 13] 3 (0, 0))) (.cells #[.func (.func 98) #[] #[]] 204 (0, 0))
  rw [show (w.alloc (.cells #[.int .i64 13] 3 (0, 0))).heap.size = w.heap.size + 1 by simp] at hT2
  have HE := Lib.hid (recordsEach_any (.func (.func 98) #[] #[]) rfl w)
  have HM := Lib.hid (recordEach_any L A c (w.heap.size + 1) w.heap.size _ (cell_row hT2 0) (cell_row hG2 0) (hR.below Rcd.cells_len hb2) hL)
  have HB := Lib.hid hb2
  clear hb2 hG2 hT2 hR
  revert HE HM HB
  generalize hw2 : (w.alloc (.cells #[.int .i64 13] 3 (0, 0))).alloc (.cells #[.func (.func 98) #[] #[]] 204 (0, 0)) = w2
  intro HE HM HB
  have HW := Lib.hid hw2
  clear hw2
  go_enter Try.func76, Try.ntmps76
  go_wp2_with (first
    | (go_at_call 97; go_must (refine HE.out.mono ?_; rintro e w3 ⟨rfl, rfl⟩))
    | (go_at_call 110; go_must (refine HM.out.mono ?_; rintro e w4 ⟨rfl, hb4⟩; have HB4 := Lib.hid (bnext HB.out hb4); clear hb4)))
  go_ret
  exact ⟨rfl, HB4.out⟩
/-- The pass of a list. -/
theorem pw_records {w : World} {base g : Nat} {l : List UInt8} {bad : Bool} (L : List Rcd) (A : Option Addr) (c : Nat) (pb po : Nat) (h : CwAt w base g l bad) (hc : w.cell? ⟨pb, po, none⟩ = some (.slice A L.length c)) (hR : ReadAt w A Rcd.cells 4 L)
    (hA : ∀ a, A = some a → a.block < base) (hpb : pb < base) (hok : ∀ x ∈ L, x.Ok) (hl : l.length ≤ 1000) (hL : L.length ≤ 1000) (hbs : base ≤ w.heap.size) :
    Calls Try.prog 75 #[wV g, .pointer (some ⟨pb, po, none⟩)] w (CwTo w base g (l ++ fB (recordAll L)) (bad || fBad (recordAll L))) := by
  have HL := Lib.hid (lw_record L A c pb po h hc hR hA hpb hok hl hL hbs)
  unfold CwTo at HL ⊢
  clear h hc hR
  unfold wV at HL ⊢
  go_enter Try.func75, Try.ntmps75
  go_wp2_with (go_at_call 95; go_must (refine HL.out.mono ?_; rintro e w2 ⟨rfl, h2⟩; have H2 := Lib.hid h2; clear h2))
  go_end0
  exact ⟨rfl, H2.out⟩
theorem pr_records {w : World} {g : Nat} {v : Value} {l : List UInt8} (a pb po : Nat) (cs : Array Value) (T : TypeId) (h : CrAt w g v l a (decide (l.length < a))) (hl : l.length ≤ 255) (ha : a ≤ 400) (hb : w.heap[pb]? = some (.cells cs T (0, 0))) (hc : cs[po]? = some (.slice none 0 0)) (hpg : pb ≠ g) (hv : Apart (· = pb) v l) :
    Calls Try.prog 75 #[rV g, .pointer (some ⟨pb, po, none⟩)] w fun e w' => ∃ v' J, e = .returned (.tuple #[]) ∧ LrRcd w g v l a pb po cs T v' J w' ∧ l.length ≤ a + J * 9 ∧ (J = 0 ∨ a + (J - 1) * 9 < l.length) := by
  have HL := Lib.hid (lr_record a pb po cs T h hl ha hb hc hpg hv)
  clear h hb hc hv
  unfold rV at HL ⊢
  go_enter Try.func75, Try.ntmps75
  go_wp2_with (go_at_call 95; go_must (refine HL.out.mono ?_; rintro e w2 ⟨v', J, rfl, h2⟩; have H2 := Lib.hid h2; clear h2))
  go_end0
  exact ⟨v', J, rfl, H2.out⟩
end Go.Proofs.Ytlcbfpcabalgcaa
