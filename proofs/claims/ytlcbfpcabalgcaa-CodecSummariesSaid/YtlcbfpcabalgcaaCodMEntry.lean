/-
  Codec: lists of entrys: may they be, as sectors, and back.
-/
import Derived.Test.YtlcbfpcabalgcaaCodLEntry
import Derived.Test.YtlcbfpcabalgcaaCodN
import Derived.Laws.EntriesVeiled
namespace Go.Proofs.Ytlcbfpcabalgcaa
open Go.RowKit
set_option linter.unusedVariables false
set_option linter.unusedSimpArgs false
set_option linter.unnecessarySimpa false
def entryMay (x : Ent5) : Bool := decide (1 ≤ x.kind ∧ x.kind ≤ 6)
set_option maxRecDepth 10000 in
set_option maxHeartbeats 4000000 in
theorem entryMay_any (x : Ent5) (w : World) : Calls Try.prog 103 #[.agg x.cells.toArray] w fun e w' => e = .returned (.bool (entryMay x)) ∧ Below w.heap.size w w' := by
  obtain ⟨y0, y1, y2, y3⟩ := x
  have hc : (Ent5.mk y0 y1 y2 y3).cells.toArray = #[.int .i64 y0, .int .u32 (y1 : Int), .int .u32 (y2 : Int), .int .i64 y3] := rfl
  rw [hc]
  have HA := fun w' => Lib.hid (among_any y0 1 6 w')
  obtain ⟨m, hm⟩ : ∃ m, entryMay ⟨y0, y1, y2, y3⟩ = m := ⟨_, rfl⟩
  have hm' : decide (1 ≤ y0 ∧ y0 ≤ 6) = m := hm
  rw [hm'] at HA
  rw [hm]
  have HB := Lib.hid (show Below w.heap.size w (w.alloc (.cells #[.int .i64 y0, .int .u32 (y1 : Int), .int .u32 (y2 : Int), .int .i64 y3] 163 (0, 0))) from (Below.refl _ _).alloc (Nat.le_refl _) _)
  clear hm hm' hc
  go_enter Try.func103, Try.ntmps103
  go_wp2_with (go_at_call 61; refine (HA _).out.mono ?_; rintro e w' ⟨rfl, rfl⟩)
  go_ret
  exact ⟨rfl, HB.out⟩
/-- May all of them be, and are they few enough? -/
def entrysMay (L : List Ent5) : Bool := L.all entryMay && decide (L.length ≤ 8)
set_option maxRecDepth 10000 in
set_option maxHeartbeats 8000000 in
theorem entryEach_any (L : List Ent5) (A : Option Addr) (c p1 p2 : Nat) (w : World) (hf : w.cell? ⟨p1, 0, none⟩ = some (.func (.func 103) #[] #[])) (hm : w.cell? ⟨p2, 0, none⟩ = some (.int .i64 8)) (hR : ReadAt w A Ent5.cells 4 L) (hL : L.length ≤ 140737488355328) :
    Calls Try.prog 111 #[.slice A L.length c, .pointer (some ⟨p1, 0, none⟩), .pointer (some ⟨p2, 0, none⟩)] w fun e w' => e = .returned (.bool (entrysMay L)) ∧ Below w.heap.size w w' := by
  have hp1 := World.block_lt_of_cell? w _ hf
  have hp2 := World.block_lt_of_cell? w _ hm
  dsimp only at hp1 hp2
  have HF := Lib.hid hf
  have HM := Lib.hid hm
  have HR := Lib.hid hR
  have HMA := fun x W => Lib.hid (entryMay_any x W)
  clear hf hm hR
  go_enter Try.func111, Try.ntmps111
  go_wp2
  go_loopw [9] (fun i wr => ∃ k : Nat, k ≤ L.length ∧ i = .int .i64 (k : Int) ∧ Hid ((L.take k).all entryMay = true) ∧ Hid (Below w.heap.size w wr)) (fun i _ => (L.length - intOf i).toNat)
  case atStart => exact ⟨0, by omega, rfl, Lib.hid rfl, Lib.hid (Below.refl _ _)⟩
  case round =>
    obtain ⟨k, hk, rfl, HK, HB⟩ := hrel
    have hf := (HB.out.cell (p := ⟨p1, 0, none⟩) hp1).trans HF.out
    have hm := (HB.out.cell (p := ⟨p2, 0, none⟩) hp2).trans HM.out
    by_cases hlt : k < L.length
    · obtain ⟨x, hx⟩ : ∃ x, L[k]? = some x := ⟨_, List.getElem?_eq_getElem hlt⟩
      obtain ⟨b, o, rfl, hr⟩ := rows_at Ent5.cells_len HR.out hx
      have hbl : b < w.heap.size := World.block_lt_of_cell? w ⟨b, o + k * 4 + 0, none⟩ (hr 0 _ rfl)
      have hr2 : wr.rangeAt b (o + k * 4) x.cells := fun j u hu => (HB.out.cell (p := ⟨b, o + k * 4 + j, none⟩) hbl).trans (hr j u hu)
      have HX := Lib.hid hx
      obtain ⟨y0, y1, y2, y3⟩ := x
      have e0 : wr.cell? ⟨b, o + k * 4, none⟩ = some (.int .i64 y0) := hr2 0 _ rfl
      have e1 : wr.cell? ⟨b, o + k * 4 + 1, none⟩ = some (.int .u32 (y1 : Int)) := hr2 1 _ rfl
      have e2 : wr.cell? ⟨b, o + k * 4 + 2, none⟩ = some (.int .u32 (y2 : Int)) := hr2 2 _ rfl
      have e3 : wr.cell? ⟨b, o + k * 4 + 3, none⟩ = some (.int .i64 y3) := hr2 3 _ rfl
      have hmx := fun W => (HMA ⟨y0, y1, y2, y3⟩ W)
      have hcc : (Ent5.mk y0 y1 y2 y3).cells.toArray = #[.int .i64 y0, .int .u32 (y1 : Int), .int .u32 (y2 : Int), .int .i64 y3] := rfl
      obtain ⟨q, hq⟩ : ∃ q, entryMay ⟨y0, y1, y2, y3⟩ = q := ⟨_, rfl⟩
      simp only [hcc, hq] at hmx
      have HQ := Lib.hid hq
      have hba : Below wr.heap.size wr (wr.alloc (.cells #[.int .i64 y0, .int .u32 (y1 : Int), .int .u32 (y2 : Int), .int .i64 y3] 163 (0, 0))) := (Below.refl _ _).alloc (Nat.le_refl _) _
      have HBA := Lib.hid (HB.out.trans (hba.mono HB.out.size))
      have hf2 := (hba.cell (p := ⟨p1, 0, none⟩) (Nat.lt_of_lt_of_le hp1 HB.out.size)).trans hf
      have hm2 := (hba.cell (p := ⟨p2, 0, none⟩) (Nat.lt_of_lt_of_le hp2 HB.out.size)).trans hm
      clear hr hr2 hx hcc hq hba
      cases q with
      | true =>
        go_wp2_with (go_at_call 103; go_must (refine (hmx _).out.mono ?_; rintro e w2 ⟨rfl, hb2⟩; have HB2 := Lib.hid (HBA.out.trans (hb2.mono HBA.out.size)); clear hb2))
        have HK2 : Hid ((L.take (k + 1)).all entryMay = true) := Lib.hid (by
          obtain ⟨hk3, e3⟩ := List.getElem?_eq_some_iff.1 HX.out
          rw [List.take_succ_eq_append_getElem hk3, List.all_append, HK.out, e3]
          simp [HQ.out])
        go_roundw
        case rel => exact ⟨k + 1, by omega, by go_num, HK2, HB2⟩
        case measure => simp [intOf]; omega
      | false =>
        have hno : entrysMay L = false := by
          unfold entrysMay
          have : L.all entryMay = false := by rw [List.all_eq_false]; exact ⟨_, List.mem_of_getElem? HX.out, by rw [HQ.out]; simp⟩
          rw [this]; rfl
        have HNO := Lib.hid hno
        clear hno
        go_wp2_with (go_at_call 103; go_must (refine (hmx _).out.mono ?_; rintro e w2 ⟨rfl, hb2⟩; have HB2 := Lib.hid (HBA.out.trans (hb2.mono HBA.out.size)); clear hb2))
        go_ret
        exact ⟨by rw [HNO.out]; rfl, HB2.out⟩
    · obtain rfl : k = L.length := by omega
      have hall := HK.out
      rw [List.take_length] at hall
      have hyes : entrysMay L = decide ((L.length : Int) ≤ 8) := by unfold entrysMay; rw [hall, Bool.true_and, decide_eq_decide]; omega
      have HYES := Lib.hid hyes
      clear hall hyes
      go_wp2
      go_ret
      exact ⟨by rw [HYES.out]; rfl, HB.out⟩
end Go.Proofs.Ytlcbfpcabalgcaa
