/-
  Codec: summaries turned from the reference's to the program's and back; are they the same?
-/
import Derived.Test.YtlcbfpcabalgcaaCodSr
import Derived.Test.YtlcbfpcabalgcaaCodSa
namespace Go.Proofs.Ytlcbfpcabalgcaa
open Go.RowKit
set_option linter.unusedVariables false
set_option linter.unusedSimpArgs false
set_option linter.unnecessarySimpa false
theorem infoRSum : (Try.prog.info? 101).map (·.size) = some 6 := by kernel_rfl
theorem infoREntry3 : (Try.prog.info? 162).map (fun i => (i.zero, i.size, i.bytes)) = some (some (.agg #[.int .i64 0, .int .u32 0, .int .u32 0, .int .i64 0]), 4, 24) := by kernel_rfl
theorem sum_one (x : Smy) (s : Option Addr) (n c : Nat) : (x.cells (.slice s n c)).all (·.oneCell') = true := by simp [Smy.cells, sumF, Value.oneCell']
set_option maxRecDepth 10000 in
set_option maxHeartbeats 8000000 in
theorem lsummary_any (x : Smy) (A : Option Addr) (c : Nat) (w : World) (hR : ReadAt w A Ent5.cells 4 x.ents) (hL : x.ents.length ≤ 1000000) :
    Calls Try.prog 39 #[.agg (x.cells (.slice A x.ents.length c))] w fun e w' => ∃ v', e = .returned (.agg (x.cells v')) ∧ w'.ownsRow w.heap.size 163 4 v' x.ents.length (rowsOf Ent5.cells x.ents) ∧ Below w.heap.size w w' := by
  obtain ⟨seq, first, commit, next, time, L⟩ := x
  dsimp only at hR hL
  have hc : ∀ v, (Smy.mk seq first commit next time L).cells v = #[.int .u64 (seq : Int), .int .u64 (first : Int), .bool commit, .int .i64 next, .int .u32 (time : Int), v] := fun v => rfl
  simp only [hc]
  clear hc
  have hA := a3 w (.cells #[.int .u64 (seq : Int), .int .u64 (first : Int), .bool commit, .int .i64 next, .int .u32 (time : Int), .slice A L.length c] 101 (0, 0)) (.cells #[.int .u64 0, .int .u64 0, .bool false, .int .i64 0, .int .u32 0, .slice none 0 0] 105 (0, 0)) (.cells #[.int .u64 (seq : Int), .int .u64 (first : Int), .bool commit, .int .i64 next, .int .u32 (time : Int), .slice none 0 0] 105 (0, 0))
  have hR3 := hR.below Ent5.cells_len hA.bel
  have hsz : (((w.alloc (.cells #[.int .u64 (seq : Int), .int .u64 (first : Int), .bool commit, .int .i64 next, .int .u32 (time : Int), .slice A L.length c] 101 (0, 0))).alloc (.cells #[.int .u64 0, .int .u64 0, .bool false, .int .i64 0, .int .u32 0, .slice none 0 0] 105 (0, 0))).alloc (.cells #[.int .u64 (seq : Int), .int .u64 (first : Int), .bool commit, .int .i64 next, .int .u32 (time : Int), .slice none 0 0] 105 (0, 0))).heap.size = w.heap.size + 1 + 1 + 1 := by simp
  have HA := Lib.hid hA
  have HR := Lib.hid hR3
  have HR0 := Lib.hid hR
  have HSZ := Lib.hid hsz
  clear hA hR3 hsz hR
  go_enter Try.func39, Try.ntmps39
  go_upto_region 2 with fail
  revert HA HR HSZ
  generalize ((w.alloc (.cells #[.int .u64 (seq : Int), .int .u64 (first : Int), .bool commit, .int .i64 next, .int .u32 (time : Int), .slice A L.length c] 101 (0, 0))).alloc (.cells #[.int .u64 0, .int .u64 0, .bool false, .int .i64 0, .int .u32 0, .slice none 0 0] 105 (0, 0))).alloc (.cells #[.int .u64 (seq : Int), .int .u64 (first : Int), .bool commit, .int .i64 next, .int .u32 (time : Int), .slice none 0 0] 105 (0, 0)) = w3
  intro HA HR HSZ
  have c5 : w3.cell? ⟨w.heap.size, 5, none⟩ = some (.slice A L.length c) := cell_row HA.out.h0 5
  go_wp2
  clear c5
  have hst : w3.ownsRow w3.heap.size 163 4 (.slice none 0 0) 0 (rowsOf Ent5.cells (L.take 0)) := own_nilk _ _ _ _
  have HST := Lib.hid hst
  clear hst
  go_loopw [20] (fun i wr => ∃ (k : Nat) (v : Value), k ≤ L.length ∧ i = .int .i64 (k : Int) ∧ Hid (wr.heap[w.heap.size + 1 + 1]? = some (.cells #[.int .u64 (seq : Int), .int .u64 (first : Int), .bool commit, .int .i64 next, .int .u32 (time : Int), v] 105 (0, 0))) ∧ Hid (wr.ownsRow w3.heap.size 163 4 v k (rowsOf Ent5.cells (L.take k))) ∧ Hid (Below (w.heap.size + 1 + 1) w3 wr)) (fun i _ => (L.length - intOf i).toNat)
  case atStart => exact ⟨0, _, by omega, rfl, Lib.hid HA.out.h2, HST, Lib.hid (Below.refl _ _)⟩
  case round =>
    clear HST
    obtain ⟨k, v, hk, rfl, HX, HO, HB⟩ := hrel
    obtain ⟨so, co, rfl⟩ := own_slice1 HO.out
    have hwz : w3.heap.size ≤ wr.heap.size := HB.out.size
    by_cases hlt : k < L.length
    · obtain ⟨x, hx⟩ : ∃ x, L[k]? = some x := ⟨_, List.getElem?_eq_getElem hlt⟩
      obtain ⟨b, o, rfl, hr⟩ := rows_at Ent5.cells_len HR.out hx
      have hbl : b < w.heap.size + 1 + 1 := by
        obtain ⟨b2, o2, e9, hr0⟩ := rows_at Ent5.cells_len HR0.out hx
        cases e9
        have := World.block_lt_of_cell? w ⟨b, o + k * 4 + 0, none⟩ (hr0 0 _ rfl)
        dsimp only at this
        omega
      have hr2 : wr.rangeAt b (o + k * 4) x.cells := fun j u hu => (HB.out.cell (p := ⟨b, o + k * 4 + j, none⟩) hbl).trans (hr j u hu)
      have HXX := Lib.hid hx
      have hlti : (k : Int) < (L.length : Int) := by omega
      obtain ⟨y0, y1, y2, y3⟩ := x
      have e0 : wr.cell? ⟨b, o + k * 4, none⟩ = some (.int .i64 y0) := hr2 0 _ rfl
      have e1 : wr.cell? ⟨b, o + k * 4 + 1, none⟩ = some (.int .u32 (y1 : Int)) := hr2 1 _ rfl
      have e2 : wr.cell? ⟨b, o + k * 4 + 2, none⟩ = some (.int .u32 (y2 : Int)) := hr2 2 _ rfl
      have e3 : wr.cell? ⟨b, o + k * 4 + 3, none⟩ = some (.int .i64 y3) := hr2 3 _ rfl
      clear hr hr2 hx
      go_upto_region 5 with fail
      have hba : Below wr.heap.size wr (wr.alloc (.cells #[.int .i64 y0, .int .u32 (y1 : Int), .int .u32 (y2 : Int), .int .i64 y3] 162 (0, 0))) := (Below.refl _ _).alloc (Nat.le_refl _) _
      have hE := heap_alloc_last wr (.cells #[.int .i64 y0, .int .u32 (y1 : Int), .int .u32 (y2 : Int), .int .i64 y3] 162 (0, 0))
      have hXa := old_heap HX.out hba
      have hOa := own_below HO.out hba
      have hBa := HB.out.trans (hba.mono (by have := HSZ.out; omega))
      have hza : (wr.alloc (.cells #[.int .i64 y0, .int .u32 (y1 : Int), .int .u32 (y2 : Int), .int .i64 y3] 162 (0, 0))).heap.size = wr.heap.size + 1 := by simp
      clear hba e0 e1 e2 e3
      revert hE hXa hOa hBa hza
      generalize wr.alloc (.cells #[.int .i64 y0, .int .u32 (y1 : Int), .int .u32 (y2 : Int), .int .i64 y3] 162 (0, 0)) = wa
      generalize hpe : wr.heap.size = pe
      intro hE hXa hOa hBa hza
      have f0 : wa.cell? ⟨pe, 0, none⟩ = some (.int .i64 y0) := cell_row hE 0
      have f1 : wa.cell? ⟨pe, 1, none⟩ = some (.int .u32 (y1 : Int)) := cell_row hE 1
      have f2 : wa.cell? ⟨pe, 2, none⟩ = some (.int .u32 (y2 : Int)) := cell_row hE 2
      have f3 : wa.cell? ⟨pe, 3, none⟩ = some (.int .i64 y3) := cell_row hE 3
      have f5 : wa.cell? ⟨w.heap.size + 1 + 1, 5, none⟩ = some (.slice so k co) := cell_row hXa 5
      have hbb : Below wa.heap.size wa (wa.alloc (.cells #[.int .i64 y0, .int .u32 (y1 : Int), .int .u32 (y2 : Int), .int .i64 y3] 163 (0, 0))) := (Below.refl _ _).alloc (Nat.le_refl _) _
      have hrd := rd_row (cs := [.int .i64 y0, .int .u32 (y1 : Int), .int .u32 (y2 : Int), .int .i64 y3]) (heap_alloc_last wa (.cells (([.int .i64 y0, .int .u32 (y1 : Int), .int .u32 (y2 : Int), .int .i64 y3] : List Value)).toArray 163 (0, 0))) rfl 1
      have HRD := Lib.hid hrd
      have HOA := Lib.hid (own_below hOa hbb)
      have HBA := Lib.hid (hBa.trans (hbb.mono (by have := HSZ.out; omega)))
      have HXA := Lib.hid (old_heap hXa hbb)
      have HZA : Hid (w3.heap.size ≤ (wa.alloc (.cells #[.int .i64 y0, .int .u32 (y1 : Int), .int .u32 (y2 : Int), .int .i64 y3] 163 (0, 0))).heap.size) := Lib.hid (by rw [World.size_alloc]; omega)
      clear hbb hrd hE hXa hOa hBa hza HX HO HB
      go_wp2_with (at_builtin; go_must (refine wpList_append_rd _ rfl (.tmp 25) (.tmp 35) 103 rfl w3.heap.size 163 (.agg #[.int .i64 0, .int .u32 0, .int .u32 0, .int .i64 0]) 4 24 Try.underlying103 infoEntry3 rfl (by decide) _ _ _ rfl HOA.out _ 1 [.int .i64 y0, .int .u32 (y1 : Int), .int .u32 (y2 : Int), .int .i64 y3] rfl HRD.out ?c1 ?c2 (by decide) HZA.out ?_; (case c1 => intro u hu; simp only [List.mem_cons, List.not_mem_nil, or_false] at hu; rcases hu with rfl | rfl | rfl | rfl <;> rfl); (case c2 => omega); intro v5 w5 hown5 hbel5 hg5; obtain ⟨s5, c5, rfl⟩ := own_slice1 hown5; have HO5 := Lib.hid hown5; have HB5 := Lib.hid (HBA.out.trans (hbel5.mono (by have := HSZ.out; omega))); have hh5 := (hbel5.block (w.heap.size + 1 + 1) (by have := HSZ.out; omega)).trans HXA.out; have HH5 := Lib.hid hh5; have q5 : w5.cell? ⟨w.heap.size + 1 + 1, 5, none⟩ = some (.slice so k co) := cell_row hh5 5; have r5 := free_row hh5 5; clear hown5 hbel5 hg5 hh5))
      have HX6 : Hid ((w5.setCell ⟨w.heap.size + 1 + 1, 5, none⟩ (.slice s5 (k + 1) c5)).heap[w.heap.size + 1 + 1]? = some (.cells #[.int .u64 (seq : Int), .int .u64 (first : Int), .bool commit, .int .i64 next, .int .u32 (time : Int), .slice s5 (k + 1) c5] 105 (0, 0))) := Lib.hid (by have := head_set HH5.out 5 (.slice s5 (k + 1) c5); simpa using this)
      have HO6 : Hid ((w5.setCell ⟨w.heap.size + 1 + 1, 5, none⟩ (.slice s5 (k + 1) c5)).ownsRow w3.heap.size 163 4 (.slice s5 (k + 1) c5) (k + 1) (rowsOf Ent5.cells (L.take (k + 1)))) := Lib.hid (by
        obtain ⟨hk3, e3⟩ := List.getElem?_eq_some_iff.1 HXX.out
        rw [List.take_succ_eq_append_getElem hk3, e3, rowsOf_snoc]
        exact own_move HO5.out (fun j hj => Below.heap_setCell _ _ _ _ (by have := (HO5.out.lt j hj).1; have := HSZ.out; show j ≠ w.heap.size + 1 + 1; omega)))
      have HB6 := Lib.hid (HB5.out.setCell (p := ⟨w.heap.size + 1 + 1, 5, none⟩) (Nat.le_refl _) (.slice s5 (k + 1) c5))
      clear HO5 HB5 HH5
      go_roundw
      case rel => exact ⟨k + 1, _, by omega, by go_num, HX6, HO6, HB6⟩
      case measure => simp [intOf]; omega
    · obtain rfl : k = L.length := by omega
      have hge : ¬ (L.length : Int) < (L.length : Int) := by omega
      have ho := HO.out
      rw [List.take_length] at ho
      have HOF := Lib.hid ho
      have hv1 : (#[.int .u64 (seq : Int), .int .u64 (first : Int), .bool commit, .int .i64 next, .int .u32 (time : Int), .slice so L.length co] : Array Value).all (·.oneCell') = true := by simp [Value.oneCell']
      obtain ⟨V, hV⟩ : ∃ V : Array Value, #[.int .u64 (seq : Int), .int .u64 (first : Int), .bool commit, .int .i64 next, .int .u32 (time : Int), .slice so L.length co] = V := ⟨_, rfl⟩
      have hVs : V.size = 6 := by rw [← hV]; rfl
      rw [hV] at hv1
      have hx6 := HX.out
      rw [hV] at hx6
      have HXX := Lib.hid hx6
      have HVE := Lib.hid hV
      have HVS := Lib.hid hVs
      have HV1 := Lib.hid hv1
      have HT := Lib.hid ((HB.out.block (w.heap.size + 1) (by omega)).trans HA.out.h1)
      have HBE := Lib.hid (HA.out.bel.trans (HB.out.mono (by omega)))
      clear ho hv1 hV hVs hx6 HX HO HB
      go_wp2_with (first
        | (refine wpList_load_row rfl 105 (.tmp 3) rfl (w.heap.size + 1 + 1) rfl _ _ _ _ HXX.out Try.underlying105 rfl (by rw [HVS.out]; exact infoSummary) ?_)
        | (refine wpList_store_row rfl 105 (.tmp 2) (.tmp 39) rfl (w.heap.size + 1) _ V 105 rfl rfl HT.out (by rw [HVS.out]; exact infoSummary) (by rw [HVS.out]; rfl) HV1.out ?_))
      have hld := run_loadVar_row (P := Try.prog) (wr.setRow (w.heap.size + 1) V) (w.heap.size + 1) 105 105 V (0, 0) _ (setRow_heap _ _ _ _ _ _ HT.out) Try.underlying105 (by simp) (by rw [HVS.out]; exact infoSummary)
      exact bodyPost_ret (results_cell1 Try.results39 rfl hld) rfl ⟨_, by rw [HVE.out], own_setRow HOF.out (by have := HSZ.out; omega) (by have := HSZ.out; omega), below_row HBE.out (by omega)⟩
set_option maxRecDepth 10000 in
set_option maxHeartbeats 8000000 in
theorem ltold_any (x : Smy) (A : Option Addr) (c : Nat) (w : World) (hR : ReadAt w A Ent5.cells 4 x.ents) (hL : x.ents.length ≤ 1000000) :
    Calls Try.prog 43 #[.agg (x.cells (.slice A x.ents.length c))] w fun e w' => ∃ v', e = .returned (.agg (x.cells v')) ∧ w'.ownsRow w.heap.size 162 4 v' x.ents.length (rowsOf Ent5.cells x.ents) ∧ Below w.heap.size w w' := by
  obtain ⟨seq, first, commit, next, time, L⟩ := x
  dsimp only at hR hL
  have hc : ∀ v, (Smy.mk seq first commit next time L).cells v = #[.int .u64 (seq : Int), .int .u64 (first : Int), .bool commit, .int .i64 next, .int .u32 (time : Int), v] := fun v => rfl
  simp only [hc]
  clear hc
  have hA := a3 w (.cells #[.int .u64 (seq : Int), .int .u64 (first : Int), .bool commit, .int .i64 next, .int .u32 (time : Int), .slice A L.length c] 105 (0, 0)) (.cells #[.int .u64 0, .int .u64 0, .bool false, .int .i64 0, .int .u32 0, .slice none 0 0] 101 (0, 0)) (.cells #[.int .u64 (seq : Int), .int .u64 (first : Int), .bool commit, .int .i64 next, .int .u32 (time : Int), .slice none 0 0] 101 (0, 0))
  have hR3 := hR.below Ent5.cells_len hA.bel
  have hsz : (((w.alloc (.cells #[.int .u64 (seq : Int), .int .u64 (first : Int), .bool commit, .int .i64 next, .int .u32 (time : Int), .slice A L.length c] 105 (0, 0))).alloc (.cells #[.int .u64 0, .int .u64 0, .bool false, .int .i64 0, .int .u32 0, .slice none 0 0] 101 (0, 0))).alloc (.cells #[.int .u64 (seq : Int), .int .u64 (first : Int), .bool commit, .int .i64 next, .int .u32 (time : Int), .slice none 0 0] 101 (0, 0))).heap.size = w.heap.size + 1 + 1 + 1 := by simp
  have HA := Lib.hid hA
  have HR := Lib.hid hR3
  have HR0 := Lib.hid hR
  have HSZ := Lib.hid hsz
  clear hA hR3 hsz hR
  go_enter Try.func43, Try.ntmps43
  go_upto_region 2 with fail
  revert HA HR HSZ
  generalize ((w.alloc (.cells #[.int .u64 (seq : Int), .int .u64 (first : Int), .bool commit, .int .i64 next, .int .u32 (time : Int), .slice A L.length c] 105 (0, 0))).alloc (.cells #[.int .u64 0, .int .u64 0, .bool false, .int .i64 0, .int .u32 0, .slice none 0 0] 101 (0, 0))).alloc (.cells #[.int .u64 (seq : Int), .int .u64 (first : Int), .bool commit, .int .i64 next, .int .u32 (time : Int), .slice none 0 0] 101 (0, 0)) = w3
  intro HA HR HSZ
  have c5 : w3.cell? ⟨w.heap.size, 5, none⟩ = some (.slice A L.length c) := cell_row HA.out.h0 5
  go_wp2
  clear c5
  have hst : w3.ownsRow w3.heap.size 162 4 (.slice none 0 0) 0 (rowsOf Ent5.cells (L.take 0)) := own_nilk _ _ _ _
  have HST := Lib.hid hst
  clear hst
  go_loopw [20] (fun i wr => ∃ (k : Nat) (v : Value), k ≤ L.length ∧ i = .int .i64 (k : Int) ∧ Hid (wr.heap[w.heap.size + 1 + 1]? = some (.cells #[.int .u64 (seq : Int), .int .u64 (first : Int), .bool commit, .int .i64 next, .int .u32 (time : Int), v] 101 (0, 0))) ∧ Hid (wr.ownsRow w3.heap.size 162 4 v k (rowsOf Ent5.cells (L.take k))) ∧ Hid (Below (w.heap.size + 1 + 1) w3 wr)) (fun i _ => (L.length - intOf i).toNat)
  case atStart => exact ⟨0, _, by omega, rfl, Lib.hid HA.out.h2, HST, Lib.hid (Below.refl _ _)⟩
  case round =>
    clear HST
    obtain ⟨k, v, hk, rfl, HX, HO, HB⟩ := hrel
    obtain ⟨so, co, rfl⟩ := own_slice1 HO.out
    have hwz : w3.heap.size ≤ wr.heap.size := HB.out.size
    by_cases hlt : k < L.length
    · obtain ⟨x, hx⟩ : ∃ x, L[k]? = some x := ⟨_, List.getElem?_eq_getElem hlt⟩
      obtain ⟨b, o, rfl, hr⟩ := rows_at Ent5.cells_len HR.out hx
      have hbl : b < w.heap.size + 1 + 1 := by
        obtain ⟨b2, o2, e9, hr0⟩ := rows_at Ent5.cells_len HR0.out hx
        cases e9
        have := World.block_lt_of_cell? w ⟨b, o + k * 4 + 0, none⟩ (hr0 0 _ rfl)
        dsimp only at this
        omega
      have hr2 : wr.rangeAt b (o + k * 4) x.cells := fun j u hu => (HB.out.cell (p := ⟨b, o + k * 4 + j, none⟩) hbl).trans (hr j u hu)
      have HXX := Lib.hid hx
      have hlti : (k : Int) < (L.length : Int) := by omega
      obtain ⟨y0, y1, y2, y3⟩ := x
      have e0 : wr.cell? ⟨b, o + k * 4, none⟩ = some (.int .i64 y0) := hr2 0 _ rfl
      have e1 : wr.cell? ⟨b, o + k * 4 + 1, none⟩ = some (.int .u32 (y1 : Int)) := hr2 1 _ rfl
      have e2 : wr.cell? ⟨b, o + k * 4 + 2, none⟩ = some (.int .u32 (y2 : Int)) := hr2 2 _ rfl
      have e3 : wr.cell? ⟨b, o + k * 4 + 3, none⟩ = some (.int .i64 y3) := hr2 3 _ rfl
      clear hr hr2 hx
      go_upto_region 5 with fail
      have hba : Below wr.heap.size wr (wr.alloc (.cells #[.int .i64 y0, .int .u32 (y1 : Int), .int .u32 (y2 : Int), .int .i64 y3] 163 (0, 0))) := (Below.refl _ _).alloc (Nat.le_refl _) _
      have hE := heap_alloc_last wr (.cells #[.int .i64 y0, .int .u32 (y1 : Int), .int .u32 (y2 : Int), .int .i64 y3] 163 (0, 0))
      have hXa := old_heap HX.out hba
      have hOa := own_below HO.out hba
      have hBa := HB.out.trans (hba.mono (by have := HSZ.out; omega))
      have hza : (wr.alloc (.cells #[.int .i64 y0, .int .u32 (y1 : Int), .int .u32 (y2 : Int), .int .i64 y3] 163 (0, 0))).heap.size = wr.heap.size + 1 := by simp
      clear hba e0 e1 e2 e3
      revert hE hXa hOa hBa hza
      generalize wr.alloc (.cells #[.int .i64 y0, .int .u32 (y1 : Int), .int .u32 (y2 : Int), .int .i64 y3] 163 (0, 0)) = wa
      generalize hpe : wr.heap.size = pe
      intro hE hXa hOa hBa hza
      have f0 : wa.cell? ⟨pe, 0, none⟩ = some (.int .i64 y0) := cell_row hE 0
      have f1 : wa.cell? ⟨pe, 1, none⟩ = some (.int .u32 (y1 : Int)) := cell_row hE 1
      have f2 : wa.cell? ⟨pe, 2, none⟩ = some (.int .u32 (y2 : Int)) := cell_row hE 2
      have f3 : wa.cell? ⟨pe, 3, none⟩ = some (.int .i64 y3) := cell_row hE 3
      have f5 : wa.cell? ⟨w.heap.size + 1 + 1, 5, none⟩ = some (.slice so k co) := cell_row hXa 5
      have hbb : Below wa.heap.size wa (wa.alloc (.cells #[.int .i64 y0, .int .u32 (y1 : Int), .int .u32 (y2 : Int), .int .i64 y3] 162 (0, 0))) := (Below.refl _ _).alloc (Nat.le_refl _) _
      have hrd := rd_row (cs := [.int .i64 y0, .int .u32 (y1 : Int), .int .u32 (y2 : Int), .int .i64 y3]) (heap_alloc_last wa (.cells (([.int .i64 y0, .int .u32 (y1 : Int), .int .u32 (y2 : Int), .int .i64 y3] : List Value)).toArray 162 (0, 0))) rfl 1
      have HRD := Lib.hid hrd
      have HOA := Lib.hid (own_below hOa hbb)
      have HBA := Lib.hid (hBa.trans (hbb.mono (by have := HSZ.out; omega)))
      have HXA := Lib.hid (old_heap hXa hbb)
      have HZA : Hid (w3.heap.size ≤ (wa.alloc (.cells #[.int .i64 y0, .int .u32 (y1 : Int), .int .u32 (y2 : Int), .int .i64 y3] 162 (0, 0))).heap.size) := Lib.hid (by rw [World.size_alloc]; omega)
      clear hbb hrd hE hXa hOa hBa hza HX HO HB
      go_wp2_with (at_builtin; go_must (refine wpList_append_rd _ rfl (.tmp 25) (.tmp 35) 99 rfl w3.heap.size 162 (.agg #[.int .i64 0, .int .u32 0, .int .u32 0, .int .i64 0]) 4 24 Try.underlying99 infoREntry3 rfl (by decide) _ _ _ rfl HOA.out _ 1 [.int .i64 y0, .int .u32 (y1 : Int), .int .u32 (y2 : Int), .int .i64 y3] rfl HRD.out ?c1 ?c2 (by decide) HZA.out ?_; (case c1 => intro u hu; simp only [List.mem_cons, List.not_mem_nil, or_false] at hu; rcases hu with rfl | rfl | rfl | rfl <;> rfl); (case c2 => omega); intro v5 w5 hown5 hbel5 hg5; obtain ⟨s5, c5, rfl⟩ := own_slice1 hown5; have HO5 := Lib.hid hown5; have HB5 := Lib.hid (HBA.out.trans (hbel5.mono (by have := HSZ.out; omega))); have hh5 := (hbel5.block (w.heap.size + 1 + 1) (by have := HSZ.out; omega)).trans HXA.out; have HH5 := Lib.hid hh5; have q5 : w5.cell? ⟨w.heap.size + 1 + 1, 5, none⟩ = some (.slice so k co) := cell_row hh5 5; have r5 := free_row hh5 5; clear hown5 hbel5 hg5 hh5))
      have HX6 : Hid ((w5.setCell ⟨w.heap.size + 1 + 1, 5, none⟩ (.slice s5 (k + 1) c5)).heap[w.heap.size + 1 + 1]? = some (.cells #[.int .u64 (seq : Int), .int .u64 (first : Int), .bool commit, .int .i64 next, .int .u32 (time : Int), .slice s5 (k + 1) c5] 101 (0, 0))) := Lib.hid (by have := head_set HH5.out 5 (.slice s5 (k + 1) c5); simpa using this)
      have HO6 : Hid ((w5.setCell ⟨w.heap.size + 1 + 1, 5, none⟩ (.slice s5 (k + 1) c5)).ownsRow w3.heap.size 162 4 (.slice s5 (k + 1) c5) (k + 1) (rowsOf Ent5.cells (L.take (k + 1)))) := Lib.hid (by
        obtain ⟨hk3, e3⟩ := List.getElem?_eq_some_iff.1 HXX.out
        rw [List.take_succ_eq_append_getElem hk3, e3, rowsOf_snoc]
        exact own_move HO5.out (fun j hj => Below.heap_setCell _ _ _ _ (by have := (HO5.out.lt j hj).1; have := HSZ.out; show j ≠ w.heap.size + 1 + 1; omega)))
      have HB6 := Lib.hid (HB5.out.setCell (p := ⟨w.heap.size + 1 + 1, 5, none⟩) (Nat.le_refl _) (.slice s5 (k + 1) c5))
      clear HO5 HB5 HH5
      go_roundw
      case rel => exact ⟨k + 1, _, by omega, by go_num, HX6, HO6, HB6⟩
      case measure => simp [intOf]; omega
    · obtain rfl : k = L.length := by omega
      have hge : ¬ (L.length : Int) < (L.length : Int) := by omega
      have ho := HO.out
      rw [List.take_length] at ho
      have HOF := Lib.hid ho
      have hv1 : (#[.int .u64 (seq : Int), .int .u64 (first : Int), .bool commit, .int .i64 next, .int .u32 (time : Int), .slice so L.length co] : Array Value).all (·.oneCell') = true := by simp [Value.oneCell']
      obtain ⟨V, hV⟩ : ∃ V : Array Value, #[.int .u64 (seq : Int), .int .u64 (first : Int), .bool commit, .int .i64 next, .int .u32 (time : Int), .slice so L.length co] = V := ⟨_, rfl⟩
      have hVs : V.size = 6 := by rw [← hV]; rfl
      rw [hV] at hv1
      have hx6 := HX.out
      rw [hV] at hx6
      have HXX := Lib.hid hx6
      have HVE := Lib.hid hV
      have HVS := Lib.hid hVs
      have HV1 := Lib.hid hv1
      have HT := Lib.hid ((HB.out.block (w.heap.size + 1) (by omega)).trans HA.out.h1)
      have HBE := Lib.hid (HA.out.bel.trans (HB.out.mono (by omega)))
      clear ho hv1 hV hVs hx6 HX HO HB
      go_wp2_with (first
        | (refine wpList_load_row rfl 101 (.tmp 3) rfl (w.heap.size + 1 + 1) rfl _ _ _ _ HXX.out Try.underlying101 rfl (by rw [HVS.out]; exact infoRSum) ?_)
        | (refine wpList_store_row rfl 101 (.tmp 2) (.tmp 39) rfl (w.heap.size + 1) _ V 101 rfl rfl HT.out (by rw [HVS.out]; exact infoRSum) (by rw [HVS.out]; rfl) HV1.out ?_))
      have hld := run_loadVar_row (P := Try.prog) (wr.setRow (w.heap.size + 1) V) (w.heap.size + 1) 101 101 V (0, 0) _ (setRow_heap _ _ _ _ _ _ HT.out) Try.underlying101 (by simp) (by rw [HVS.out]; exact infoRSum)
      exact bodyPost_ret (results_cell1 Try.results43 rfl hld) rfl ⟨_, by rw [HVE.out], own_setRow HOF.out (by have := HSZ.out; omega) (by have := HSZ.out; omega), below_row HBE.out (by omega)⟩
theorem eq_ent (w : World) (x : Ent5) : (Op.equalIn 10000 162 (.agg x.cells.toArray) (.agg x.cells.toArray)).run Try.prog w = .ok true w := by
  have hu := Try.underlying162
  have hf : Try.prog.underlying 162 = some (.struct (Try.prog.fieldsOf 162)) := by unfold Program.fieldsOf; rw [hu]
  rw [run_equalIn_struct w 9999 _ _ _ hf (by kernel_rfl)]
  unfold Program.fieldsOf
  rw [hu]
  simp only [Op.eqFields]
  obtain ⟨kind, num, ver, idx⟩ := x
  have hc : (Ent5.mk kind num ver idx).cells.toArray = #[.int .i64 kind, .int .u32 (num : Int), .int .u32 (ver : Int), .int .i64 idx] := rfl
  rw [hc]
  go_simp
set_option maxRecDepth 10000 in
set_option maxHeartbeats 8000000 in
theorem lsame_any (x : Smy) (A A' : Option Addr) (c c' : Nat) (w : World) (hR : ReadAt w A Ent5.cells 4 x.ents) (hR' : ReadAt w A' Ent5.cells 4 x.ents) (hL : x.ents.length ≤ 1000000) :
    Calls Try.prog 42 #[.agg (x.cells (.slice A x.ents.length c)), .agg (x.cells (.slice A' x.ents.length c'))] w fun e w' => e = .returned (.bool true) ∧ Below w.heap.size w w' := by
  obtain ⟨seq, first, commit, next, time, L⟩ := x
  dsimp only at hR hR' hL
  have hc : ∀ v, (Smy.mk seq first commit next time L).cells v = #[.int .u64 (seq : Int), .int .u64 (first : Int), .bool commit, .int .i64 next, .int .u32 (time : Int), v] := fun v => rfl
  simp only [hc]
  clear hc
  have hB : Below w.heap.size w ((w.alloc (.cells #[.int .u64 (seq : Int), .int .u64 (first : Int), .bool commit, .int .i64 next, .int .u32 (time : Int), .slice A L.length c] 101 (0, 0))).alloc (.cells #[.int .u64 (seq : Int), .int .u64 (first : Int), .bool commit, .int .i64 next, .int .u32 (time : Int), .slice A' L.length c'] 101 (0, 0))) := ((Below.refl _ _).alloc (Nat.le_refl _) _).alloc (by simp) _
  have hG := old_heap (heap_alloc_last w (.cells #[.int .u64 (seq : Int), .int .u64 (first : Int), .bool commit, .int .i64 next, .int .u32 (time : Int), .slice A L.length c] 101 (0, 0))) ((Below.refl _ _).alloc (Nat.le_refl _) (.cells #[.int .u64 (seq : Int), .int .u64 (first : Int), .bool commit, .int .i64 next, .int .u32 (time : Int), .slice A' L.length c'] 101 (0, 0)))
  have hT := heap_alloc_last (w.alloc (.cells #[.int .u64 (seq : Int), .int .u64 (first : Int), .bool commit, .int .i64 next, .int .u32 (time : Int), .slice A L.length c] 101 (0, 0))) (.cells #[.int .u64 (seq : Int), .int .u64 (first : Int), .bool commit, .int .i64 next, .int .u32 (time : Int), .slice A' L.length c'] 101 (0, 0))
  rw [show (w.alloc (.cells #[.int .u64 (seq : Int), .int .u64 (first : Int), .bool commit, .int .i64 next, .int .u32 (time : Int), .slice A L.length c] 101 (0, 0))).heap.size = w.heap.size + 1 by simp] at hT
  have hsz : ((w.alloc (.cells #[.int .u64 (seq : Int), .int .u64 (first : Int), .bool commit, .int .i64 next, .int .u32 (time : Int), .slice A L.length c] 101 (0, 0))).alloc (.cells #[.int .u64 (seq : Int), .int .u64 (first : Int), .bool commit, .int .i64 next, .int .u32 (time : Int), .slice A' L.length c'] 101 (0, 0))).heap.size = w.heap.size + 1 + 1 := by simp
  have hR2 := hR.below Ent5.cells_len hB
  have hR3 := hR'.below Ent5.cells_len hB
  clear hR hR'
  go_enter Try.func42, Try.ntmps42
  go_upto_region 1 with fail
  revert hB hG hT hsz hR2 hR3
  generalize (w.alloc (.cells #[.int .u64 (seq : Int), .int .u64 (first : Int), .bool commit, .int .i64 next, .int .u32 (time : Int), .slice A L.length c] 101 (0, 0))).alloc (.cells #[.int .u64 (seq : Int), .int .u64 (first : Int), .bool commit, .int .i64 next, .int .u32 (time : Int), .slice A' L.length c'] 101 (0, 0)) = w2
  intro hB hG hT hsz hR2 hR3
  have HB := Lib.hid hB
  have HG := Lib.hid hG
  have HT := Lib.hid hT
  have HSZ := Lib.hid hsz
  have HR := Lib.hid hR2
  have HR' := Lib.hid hR3
  clear hB hG hT hsz hR2 hR3
  have c0 : w2.cell? ⟨w.heap.size, 0, none⟩ = some (.int .u64 (seq : Int)) := cell_row HG.out 0
  have c1 : w2.cell? ⟨w.heap.size, 1, none⟩ = some (.int .u64 (first : Int)) := cell_row HG.out 1
  have c2 : w2.cell? ⟨w.heap.size, 2, none⟩ = some (.bool commit) := cell_row HG.out 2
  have c3 : w2.cell? ⟨w.heap.size, 3, none⟩ = some (.int .i64 next) := cell_row HG.out 3
  have c4 : w2.cell? ⟨w.heap.size, 4, none⟩ = some (.int .u32 (time : Int)) := cell_row HG.out 4
  have c5 : w2.cell? ⟨w.heap.size, 5, none⟩ = some (.slice A L.length c) := cell_row HG.out 5
  have d0 : w2.cell? ⟨w.heap.size + 1, 0, none⟩ = some (.int .u64 (seq : Int)) := cell_row HT.out 0
  have d1 : w2.cell? ⟨w.heap.size + 1, 1, none⟩ = some (.int .u64 (first : Int)) := cell_row HT.out 1
  have d2 : w2.cell? ⟨w.heap.size + 1, 2, none⟩ = some (.bool commit) := cell_row HT.out 2
  have d3 : w2.cell? ⟨w.heap.size + 1, 3, none⟩ = some (.int .i64 next) := cell_row HT.out 3
  have d4 : w2.cell? ⟨w.heap.size + 1, 4, none⟩ = some (.int .u32 (time : Int)) := cell_row HT.out 4
  have d5 : w2.cell? ⟨w.heap.size + 1, 5, none⟩ = some (.slice A' L.length c') := cell_row HT.out 5
  go_wp2
  clear c0 c1 c2 c3 c4 c5 d0 d1 d2 d3 d4 d5
  go_loopw [51] (fun i wr => ∃ k : Nat, k ≤ L.length ∧ i = .int .i64 (k : Int) ∧ Hid (Below w2.heap.size w2 wr)) (fun i _ => (L.length - intOf i).toNat)
  case atStart => exact ⟨0, by omega, rfl, Lib.hid (Below.refl _ _)⟩
  case round =>
    obtain ⟨k, hk, rfl, HBk⟩ := hrel
    by_cases hlt : k < L.length
    · obtain ⟨x, hx⟩ : ∃ x, L[k]? = some x := ⟨_, List.getElem?_eq_getElem hlt⟩
      obtain ⟨b, o, rfl, hr⟩ := rows_at Ent5.cells_len HR.out hx
      obtain ⟨b', o', rfl, hr'⟩ := rows_at Ent5.cells_len HR'.out hx
      have hbl : b < w2.heap.size := World.block_lt_of_cell? w2 ⟨b, o + k * 4 + 0, none⟩ (hr 0 _ rfl)
      have hbl' : b' < w2.heap.size := World.block_lt_of_cell? w2 ⟨b', o' + k * 4 + 0, none⟩ (hr' 0 _ rfl)
      have hr2 : wr.rangeAt b (o + k * 4) x.cells := fun j u hu => (HBk.out.cell (p := ⟨b, o + k * 4 + j, none⟩) hbl).trans (hr j u hu)
      have hr3 : wr.rangeAt b' (o' + k * 4) x.cells := fun j u hu => (HBk.out.cell (p := ⟨b', o' + k * 4 + j, none⟩) hbl').trans (hr' j u hu)
      have hes := fun W => eq_ent W x
      have hlti : (k : Int) < (L.length : Int) := by omega
      obtain ⟨y0, y1, y2, y3⟩ := x
      have hcc : (Ent5.mk y0 y1 y2 y3).cells.toArray = #[.int .i64 y0, .int .u32 (y1 : Int), .int .u32 (y2 : Int), .int .i64 y3] := rfl
      simp only [hcc] at hes
      have e0 : wr.cell? ⟨b, o + k * 4, none⟩ = some (.int .i64 y0) := hr2 0 _ rfl
      have e1 : wr.cell? ⟨b, o + k * 4 + 1, none⟩ = some (.int .u32 (y1 : Int)) := hr2 1 _ rfl
      have e2 : wr.cell? ⟨b, o + k * 4 + 2, none⟩ = some (.int .u32 (y2 : Int)) := hr2 2 _ rfl
      have e3 : wr.cell? ⟨b, o + k * 4 + 3, none⟩ = some (.int .i64 y3) := hr2 3 _ rfl
      have f0 : wr.cell? ⟨b', o' + k * 4, none⟩ = some (.int .i64 y0) := hr3 0 _ rfl
      have f1 : wr.cell? ⟨b', o' + k * 4 + 1, none⟩ = some (.int .u32 (y1 : Int)) := hr3 1 _ rfl
      have f2 : wr.cell? ⟨b', o' + k * 4 + 2, none⟩ = some (.int .u32 (y2 : Int)) := hr3 2 _ rfl
      have f3 : wr.cell? ⟨b', o' + k * 4 + 3, none⟩ = some (.int .i64 y3) := hr3 3 _ rfl
      have c5 : wr.cell? ⟨w.heap.size, 5, none⟩ = some (.slice (some ⟨b, o, none⟩) L.length c) := (HBk.out.cell (p := ⟨w.heap.size, 5, none⟩) (by show w.heap.size < _; have := HSZ.out; omega)).trans (cell_row HG.out 5)
      have d5 : wr.cell? ⟨w.heap.size + 1, 5, none⟩ = some (.slice (some ⟨b', o', none⟩) L.length c') := (HBk.out.cell (p := ⟨w.heap.size + 1, 5, none⟩) (by show w.heap.size + 1 < _; have := HSZ.out; omega)).trans (cell_row HT.out 5)
      clear hr hr' hr2 hr3 hx hcc
      go_upto_region 6 with fail
      go_quiet (fail)
      rename_i nq
      have HBn : Hid (Below w2.heap.size w2 (wr.drewN nq)) := Lib.hid (bdrewN HBk.out nq)
      clear HBk c5 d5 e0 e1 e2 e3 f0 f1 f2 f3
      go_wp2
      go_roundw
      case rel => exact ⟨k + 1, by omega, by go_num, HBn⟩
      case measure => simp [intOf]; omega
    · obtain rfl : k = L.length := by omega
      have hge : ¬ (L.length : Int) < (L.length : Int) := by omega
      go_wp2
      go_ret
      exact ⟨rfl, HB.out.trans (HBk.out.mono (by have := HSZ.out; omega))⟩
end Go.Proofs.Ytlcbfpcabalgcaa
