/-
  Codec: the program's WriteSummary and ReadSummary.
-/
import Derived.Test.YtlcbfpcabalgcaaCodSm
namespace Go.Proofs.Ytlcbfpcabalgcaa
open Go.RowKit
set_option linter.unusedVariables false
set_option linter.unusedSimpArgs false
set_option linter.unnecessarySimpa false
theorem sumF_size (x : Smy) (v : Value) : (x.cells v).size = 6 := rfl
theorem built_sum : Try.prog.built 105 [] = some #[.int .u64 0, .int .u64 0, .bool false, .int .i64 0, .int .u32 0, .slice none 0 0] := by kernel_rfl
set_option maxRecDepth 10000 in
set_option maxHeartbeats 4000000 in
theorem writeSummary_any (x : Smy) (hx : x.Ok) (A : Option Addr) (c : Nat) (w : World) (hR : ReadAt w A Ent5.cells 4 x.ents) (hA : ∀ a, A = some a → a.block < w.heap.size) :
    Calls Try.prog 38 #[.agg (x.cells (.slice A x.ents.length c))] w (WrS w 3 (sumWr x) (fB (sumL x))) := by
  have hwr := fun w' (hb : Below w.heap.size w w') => wrs_summary x hx A c w' (hR.below Ent5.cells_len hb) (fun a ha => Nat.lt_of_lt_of_le (hA a ha) hb.size)
  obtain ⟨C, hC⟩ : ∃ C, x.cells (.slice A x.ents.length c) = C := ⟨_, rfl⟩
  obtain ⟨ok, hok⟩ : ∃ ok, sumWr x = ok := ⟨_, rfl⟩
  obtain ⟨L, hL⟩ : ∃ L, fB (sumL x) = L := ⟨_, rfl⟩
  have hC2 : sumF x.seq x.first x.commit x.next x.time (.slice A x.ents.length c) = C := hC
  have hCs : C.size = 6 := by rw [← hC]; rfl
  rw [hok, hL, hC2] at hwr
  rw [hC, hok, hL]
  have hB1 : Below w.heap.size w ((w.alloc (.cells C 105 (0, 0))).alloc (.cells Try.zeroCells29 29 (0, 0))) := ((Below.refl _ _).alloc (Nat.le_refl _) _).alloc (by simp) _
  have hG1 := old_heap (heap_alloc_last w (.cells C 105 (0, 0))) ((Below.refl _ _).alloc (Nat.le_refl _) (.cells Try.zeroCells29 29 (0, 0)))
  have hT1 := heap_alloc_last (w.alloc (.cells C 105 (0, 0))) (.cells Try.zeroCells29 29 (0, 0))
  rw [show (w.alloc (.cells C 105 (0, 0))).heap.size = w.heap.size + 1 by simp] at hT1
  have HIS := Lib.hid hCs
  have HWR := fun w' hb => Lib.hid (hwr w' hb)
  have HB1 := Lib.hid hB1
  have HG1 := Lib.hid hG1
  have HT1 := Lib.hid hT1
  clear hwr hB1 hG1 hT1 hx hC hok hL hC2 hCs hR hA
  have hS : (bvs (wrS 3 ok L)).toArray.size = 128 := by rw [secV_size, wrS_length]
  have HSS := Lib.hid hS
  clear hS
  unfold WrS at HWR
  go_enter Try.func38, Try.ntmps38
  go_upto_region 1 with fail
  revert HB1 HG1 HT1
  generalize (w.alloc (.cells C 105 (0, 0))).alloc (.cells Try.zeroCells29 29 (0, 0)) = w1
  intro HB1 HG1 HT1
  go_wp2_with (first
    | (refine wpList_load_row rfl 105 (.tmp 1) rfl w.heap.size rfl _ _ _ _ HG1.out Try.underlying105 rfl (by rw [HIS.out]; exact infoSummary) ?_)
    | (go_at_call 78; go_must (refine (HWR _ HB1.out).out.mono ?_; rintro e w2 ⟨rfl, hb2⟩; unfold secV; have HT2 := Lib.hid (old_heap HT1.out hb2); have HB2 := Lib.hid (bnext HB1.out hb2); clear hb2))
    | (refine wpList_store_row rfl 29 (.tmp 2) (.tmp 6) rfl (w.heap.size + 1) zArr (bvs (wrS 3 ok L)).toArray 29 rfl rfl HT2.out (by rw [HSS.out]; exact size_sec) (by rw [HSS.out, zArr_size]) (sec_one _) ?_))
  have hld := run_loadVar_row (P := Try.prog) (w2.setRow (w.heap.size + 1) (bvs (wrS 3 ok L)).toArray) (w.heap.size + 1) 29 29 (bvs (wrS 3 ok L)).toArray (0, 0) _ (setRow_heap _ _ _ _ _ _ HT2.out) Try.underlying29 (by simp) (by rw [HSS.out]; exact size_sec)
  exact bodyPost_ret (v := .tuple #[secV (wrS 3 ok L), .int .i64 (wrE 3 ok L)]) (results_cell2 Try.results38 rfl rfl hld) rfl ⟨rfl, below_row HB2.out (by omega)⟩
def sumB (x : Smy) : Bool := sumWr x && mayB 3 (fB (sumL x))
def sumS (x : Smy) : List UInt8 := wrS 3 (sumWr x) (fB (sumL x))
theorem sumS_length (x : Smy) : (sumS x).length = 128 := wrS_length _ _ _
theorem sumE_eq (x : Smy) : wrE 3 (sumWr x) (fB (sumL x)) = if sumB x then 0 else 1 := by
  unfold wrE sumB
  unfold makeE
  cases sumWr x <;> cases mayB 3 (fB (sumL x)) <;> rfl
theorem sumNone_ok : sumNone.Ok := ⟨by decide, by decide, ⟨by decide, by decide⟩, by decide, fun y hy => (List.not_mem_nil hy).elim, by decide⟩
theorem rsum_ok (b : List UInt8) (J : Nat) (hJ : J ≤ 1000) : (rsum b J).Ok := by
  have h := fun a k (hk : k ≤ 4) => Nat.lt_of_lt_of_le (rN_lt b a k) (Nat.pow_le_pow_right (n := 256) (by decide) hk)
  have h8 := fun a => rN_lt b a 8
  refine ⟨h8 _, h8 _, ⟨by have := h 18 2 (by decide); show (_ : Int) ≤ (rN b 18 2 : Int); omega, by have := h 18 2 (by decide); show (rN b 18 2 : Int) ≤ _; omega⟩, h _ _ (by decide), fun y hy => ?_, by show (entrys b 24 J).length ≤ 1000; rw [entrys_len]; exact hJ⟩
  obtain ⟨q, _, rfl⟩ := List.mem_map.1 (show y ∈ (List.range J).map fun q => rentry b (24 + q * 9) from hy)
  exact rentry_ok _ _
theorem sumRdX_ok (l : List UInt8) : (sumRdX l).Ok := by
  unfold sumRdX
  split
  · exact rsum_ok _ _ (by have := openL_le l; unfold sumN; omega)
  · exact sumNone_ok
/-- A sector is a summary's if it is just what Write makes of it. -/
def sumOk (l : List UInt8) : Bool := sumRdOk l && (sumB (sumRdX l) && decide (sumS (sumRdX l) = l))
def sumX (l : List UInt8) : Smy := if sumOk l then sumRdX l else sumNone
theorem readSum_no {w w' : World} {l : List UInt8} {e : Ending} (h : sumOk l = false) (he : e = .returned (.tuple #[.agg #[.int .u64 0, .int .u64 0, .bool false, .int .i64 0, .int .u32 0, .slice none 0 0], .int .i64 21])) (hb : Below w.heap.size w w') : RlSum w (sumOk l) (sumX l) e w' := by
  unfold RlSum sumX
  rw [h]
  exact ⟨_, he, own_nilk _ _ _ _, hb⟩
theorem readSum_yes {w w' : World} {l : List UInt8} {e : Ending} {v' : Value} {x : Smy} (h : sumOk l = true) (hx : sumRdX l = x) (he : e = .returned (.tuple #[.agg (x.cells v'), .int .i64 0])) (ho : w'.ownsRow w.heap.size 163 4 v' x.ents.length (rowsOf Ent5.cells x.ents)) (hb : Below w.heap.size w w') : RlSum w (sumOk l) (sumX l) e w' := by
  unfold RlSum sumX
  rw [h, if_pos rfl, if_pos rfl, hx]
  exact ⟨_, he, ho, hb⟩
set_option maxRecDepth 10000 in
set_option maxHeartbeats 8000000 in
theorem readSummary_any (l : List UInt8) (w : World) (hl : l.length = 128) : Calls Try.prog 41 #[secV l] w (RlSum w (sumOk l) (sumX l)) := by
  have HRD : ∀ w', Hid (Calls Try.prog 81 #[.int .u8 3, secV l, .func (.func 79) #[] #[], .func (.func 80) #[] #[]] w' fun e w'' => ∃ v', e = .returned (.tuple #[.agg ((sumRdX l).cells v'), .int .i64 (if sumRdOk l then 0 else 21)]) ∧ w''.ownsRow w'.heap.size 163 4 v' (sumRdX l).ents.length (rowsOf Ent5.cells (sumRdX l).ents) ∧ Below w'.heap.size w' w'') := fun w' => Lib.hid (rds_summary l w' hl)
  have hok2 : sumOk l = (sumRdOk l && (sumB (sumRdX l) && decide (sumS (sumRdX l) = l))) := rfl
  have hxok := sumRdX_ok l
  obtain ⟨x, hx⟩ : ∃ x, sumRdX l = x := ⟨_, rfl⟩
  obtain ⟨ok1, hok1⟩ : ∃ ok1, sumRdOk l = ok1 := ⟨_, rfl⟩
  obtain ⟨ok3, hok3⟩ : ∃ ok3, sumB x = ok3 := ⟨_, rfl⟩
  obtain ⟨m, hm⟩ : ∃ m, sumS x = m := ⟨_, rfl⟩
  simp only [hx, hok1] at HRD hok2 hxok
  have hml : m.length = 128 := by rw [← hm]; exact sumS_length x
  have HWR : ∀ A c w', ReadAt w' A Ent5.cells 4 x.ents → (∀ a, A = some a → a.block < w'.heap.size) → Hid (Calls Try.prog 38 #[.agg (x.cells (.slice A x.ents.length c))] w' fun e w'' => e = .returned (.tuple #[.agg (bvs m).toArray, .int .i64 (if ok3 then 0 else 1)]) ∧ Below w'.heap.size w' w'') := fun A c w' h1 h2 => Lib.hid ((writeSummary_any x hxok A c w' h1 h2).mono fun e w'' h => by
    have h3 := h.1
    rw [sumE_eq, hok3] at h3
    refine ⟨?_, h.2⟩
    rw [h3, ← hm]
    rfl)
  rw [hok3, hm] at hok2
  have HOK := Lib.hid hok2
  have HX := Lib.hid hx
  have hZc : #[.int .u64 0, .int .u64 0, .bool false, .int .i64 0, .int .u32 0, .slice none 0 0] = (sumNone.cells (.slice none 0 0)) := rfl
  have HSZ : Hid ((bvs l).toArray.size = 128) := by unfold Hid; rw [secV_size, hl]
  have HMS : Hid ((bvs m).toArray.size = 128) := by unfold Hid; rw [secV_size, hml]
  have heq : ∀ W : World, (Op.equalIn 10000 29 (.agg (bvs m).toArray) (.agg (bvs l).toArray)).run Try.prog W = .ok (decide (m = l)) W := fun W => equal_sector W m l hml hl
  have hB1 : Below w.heap.size w ((w.alloc (.cells (bvs l).toArray 29 (0, 0))).alloc (.cells #[.int .u64 0, .int .u64 0, .bool false, .int .i64 0, .int .u32 0, .slice none 0 0] 105 (0, 0))) := ((Below.refl _ _).alloc (Nat.le_refl _) _).alloc (by simp) _
  have hG1 := old_heap (heap_alloc_last w (.cells (bvs l).toArray 29 (0, 0))) ((Below.refl _ _).alloc (Nat.le_refl _) (.cells #[.int .u64 0, .int .u64 0, .bool false, .int .i64 0, .int .u32 0, .slice none 0 0] 105 (0, 0)))
  have hT1 := heap_alloc_last (w.alloc (.cells (bvs l).toArray 29 (0, 0))) (.cells #[.int .u64 0, .int .u64 0, .bool false, .int .i64 0, .int .u32 0, .slice none 0 0] 105 (0, 0))
  rw [show (w.alloc (.cells (bvs l).toArray 29 (0, 0))).heap.size = w.heap.size + 1 by simp] at hT1
  have HS1 : Hid (((w.alloc (.cells (bvs l).toArray 29 (0, 0))).alloc (.cells #[.int .u64 0, .int .u64 0, .bool false, .int .i64 0, .int .u32 0, .slice none 0 0] 105 (0, 0))).heap.size = w.heap.size + 1 + 1) := Lib.hid (by simp)
  have HB1 := Lib.hid hB1
  have HG1 := Lib.hid hG1
  have HT1 := Lib.hid hT1
  clear hok2 hxok hx hok1 hok3 hm hml hB1 hG1 hT1 hl hZc
  unfold secV
  go_enter Try.func41, Try.ntmps41
  go_upto_region 1 with fail
  revert HB1 HG1 HT1 HS1
  generalize (w.alloc (.cells (bvs l).toArray 29 (0, 0))).alloc (.cells #[.int .u64 0, .int .u64 0, .bool false, .int .i64 0, .int .u32 0, .slice none 0 0] 105 (0, 0)) = w1
  intro HS1 HB1 HG1 HT1
  unfold secV at HRD
  go_upto_region 2 with (first
    | (refine wpList_load_row rfl 29 (.tmp 1) rfl w.heap.size rfl _ _ _ _ HG1.out Try.underlying29 rfl (by rw [HSZ.out]; exact size_sec) ?_)
    | (go_at_call 81; go_must (refine (HRD _).out.mono ?_; rintro e w2 ⟨v', rfl, ho2, hb2⟩; obtain ⟨s', c', rfl⟩ := own_slice1 ho2; have HO2 := Lib.hid ho2; have HG2 := Lib.hid (old_heap HG1.out hb2); have HT2 := Lib.hid (old_heap HT1.out hb2); have HB2 := Lib.hid (bnext HB1.out hb2); have HZ2 := Lib.hid hb2.size; obtain ⟨V, hV⟩ : ∃ V, x.cells (.slice s' x.ents.length c') = V := ⟨_, rfl⟩; have HVS : Hid (V.size = 6) := (by rw [← hV]; exact rfl); have HV1 : Hid (V.all (·.oneCell') = true) := (by unfold Hid; rw [← hV]; simp [Smy.cells, sumF, Value.oneCell']); have HVE := Lib.hid hV; rw [hV]; clear ho2 hb2 hV))
    | (refine wpList_store_row rfl 105 (.tmp 4) (.tmp 11) rfl w2.heap.size _ V 105 rfl rfl (heap_alloc_last _ _) (by rw [HVS.out]; exact infoSummary) (by rw [HVS.out]; rfl) HV1.out ?_))
  rw [World.setRow_alloc_new]
  have hX3 := heap_alloc_last w2 (.cells V 105 (0, 0))
  have hb3 : Below w2.heap.size w2 (w2.alloc (.cells V 105 (0, 0))) := (Below.refl _ _).alloc (Nat.le_refl _) _
  have hG3 := old_heap HG2.out hb3
  have hT3 := old_heap HT2.out hb3
  have hB3 := bnext HB2.out hb3
  have hO3 := own_below HO2.out hb3
  have hz3 := hb3.size
  have hZ2 := HZ2.out
  clear hb3 HG2 HT2 HB2 HO2 HG1 HT1 HB1 HRD HZ2
  revert hX3 hG3 hT3 hB3 hO3 hz3 hZ2
  generalize w2.alloc (.cells V 105 (0, 0)) = w3
  generalize w2.heap.size = p3
  intro hX3 hG3 hT3 hB3 hO3 hz3 hZ2
  have hR3 : ReadAt w3 s' Ent5.cells 4 x.ents := by
    obtain ⟨A9, c9, e9, -, -, -, h9, -⟩ := own_rows (F := fun _ => False) Ent5.cells_len hO3 rfl (fun _ _ => id)
    injection e9 with e9
    subst e9
    exact h9
  have hA3 : ∀ a, s' = some a → a.block < w3.heap.size := fun a ha => by
    subst ha
    exact own_block_lt hO3 a.block rfl
  have HW3 := HWR s' c' w3 hR3 hA3
  rw [HVE.out] at HW3
  have HX3 := Lib.hid hX3
  have HG3 := Lib.hid hG3
  have HT3 := Lib.hid hT3
  have HB3 := Lib.hid hB3
  have HO3 := Lib.hid hO3
  have HZ3 := Lib.hid (show w.heap.size + 1 + 1 ≤ p3 ∧ p3 ≤ w3.heap.size from ⟨by rw [← HS1.out]; exact hZ2, hz3⟩)
  clear hX3 hG3 hT3 hB3 hO3 hR3 hA3 HWR hz3 hZ2
  go_upto_region 3 with (first
    | (refine wpList_load_row rfl 105 (.tmp 4) rfl p3 rfl _ _ _ _ HX3.out Try.underlying105 rfl (by rw [HVS.out]; exact infoSummary) ?_)
    | (go_at_call 38; go_must (refine HW3.out.mono ?_; rintro e w4 ⟨rfl, hb4⟩; have HO4 := Lib.hid (own_below HO3.out hb4); have HX4 := Lib.hid (old_heap HX3.out hb4); have HG4 := Lib.hid (old_heap HG3.out hb4); have HT4 := Lib.hid (old_heap HT3.out hb4); have HB4 := Lib.hid (bnext HB3.out hb4); have HZ4 := Lib.hid hb4.size; clear hb4))
    | (refine wpList_store_row rfl 29 (.tmp 6) (.tmp 16) rfl w4.heap.size zArr (bvs m).toArray 29 rfl rfl (heap_alloc_last _ _) (by rw [HMS.out]; exact size_sec) (by rw [HMS.out, zArr_size]) (sec_one _) ?_))
  rw [World.setRow_alloc_new]
  have hY5 := heap_alloc_last w4 (.cells (bvs m).toArray 29 (0, 0))
  have hb5 : Below w4.heap.size w4 (w4.alloc (.cells (bvs m).toArray 29 (0, 0))) := (Below.refl _ _).alloc (Nat.le_refl _) _
  have hX5 := old_heap HX4.out hb5
  have hG5 := old_heap HG4.out hb5
  have hT5 := old_heap HT4.out hb5
  have hB5 := bnext HB4.out hb5
  have hO5 := own_below HO4.out hb5
  clear hb5 HX4 HG4 HT4 HB4 HO4 HX3 HG3 HT3 HB3 HO3 HW3
  revert hY5 hX5 hG5 hT5 hB5 hO5
  generalize w4.alloc (.cells (bvs m).toArray 29 (0, 0)) = w5
  generalize w4.heap.size = p5
  intro hY5 hX5 hG5 hT5 hB5 hO5
  have HY5 := Lib.hid hY5
  have HX5 := Lib.hid hX5
  have HG5 := Lib.hid hG5
  have HT5 := Lib.hid hT5
  have HB5 := Lib.hid hB5
  have HO5 := Lib.hid hO5
  clear hY5 hX5 hG5 hT5 hB5 hO5
  cases ok1 with
  | false =>
    have HNO : Hid (sumOk l = false) := Lib.hid (by rw [HOK.out]; rfl)
    clear heq
    go_wp2_with (first
      | (refine wpList_load_row_g rfl 29 (.tmp 6) rfl p5 rfl _ _ _ _ HY5.out Try.underlying29 rfl (by rw [HMS.out]; exact size_sec) ?_)
      | (refine wpList_load_row_g rfl 29 (.tmp 1) rfl w.heap.size rfl _ _ _ _ HG5.out Try.underlying29 rfl (by rw [HSZ.out]; exact size_sec) ?_)
      | (refine wpList_build_at rfl 105 _ rfl [] (by simp) #[.int .u64 0, .int .u64 0, .bool false, .int .i64 0, .int .u32 0, .slice none 0 0] built_sum ?_)
      | (refine wpList_store_row rfl 105 (.tmp 2) (.tmp 29) rfl (w.heap.size + 1) _ #[.int .u64 0, .int .u64 0, .bool false, .int .i64 0, .int .u32 0, .slice none 0 0] 105 rfl rfl HT5.out infoSummary rfl (by simp [Value.oneCell']) ?_)
      | (refine wpList_load_row rfl 105 (.tmp 4) rfl p3 rfl _ _ _ _ HX5.out Try.underlying105 rfl (by rw [HVS.out]; exact infoSummary) ?_)
      | (refine wpList_store_row rfl 105 (.tmp 2) (.tmp 30) rfl (w.heap.size + 1) _ V 105 rfl rfl HT5.out (by rw [HVS.out]; exact infoSummary) (by rw [HVS.out]; rfl) HV1.out ?_))
    all_goals
      have hld := run_loadVar_row (P := Try.prog) (w5.setRow (w.heap.size + 1) #[.int .u64 0, .int .u64 0, .bool false, .int .i64 0, .int .u32 0, .slice none 0 0]) (w.heap.size + 1) 105 105 #[.int .u64 0, .int .u64 0, .bool false, .int .i64 0, .int .u32 0, .slice none 0 0] (0, 0) _ (setRow_heap _ _ _ _ _ _ HT5.out) Try.underlying105 (by simp) infoSummary
      exact bodyPost_ret (v := .tuple #[.agg #[.int .u64 0, .int .u64 0, .bool false, .int .i64 0, .int .u32 0, .slice none 0 0], .int .i64 21]) (results_cell2 Try.results41 rfl rfl hld) rfl (readSum_no HNO.out rfl (below_row HB5.out (by omega)))
  | true =>
    cases ok3 with
    | false =>
      have HNO : Hid (sumOk l = false) := Lib.hid (by rw [HOK.out]; rfl)
      clear heq
      go_wp2_with (first
        | (refine wpList_load_row_g rfl 29 (.tmp 6) rfl p5 rfl _ _ _ _ HY5.out Try.underlying29 rfl (by rw [HMS.out]; exact size_sec) ?_)
        | (refine wpList_load_row_g rfl 29 (.tmp 1) rfl w.heap.size rfl _ _ _ _ HG5.out Try.underlying29 rfl (by rw [HSZ.out]; exact size_sec) ?_)
        | (refine wpList_build_at rfl 105 _ rfl [] (by simp) #[.int .u64 0, .int .u64 0, .bool false, .int .i64 0, .int .u32 0, .slice none 0 0] built_sum ?_)
        | (refine wpList_store_row rfl 105 (.tmp 2) (.tmp 29) rfl (w.heap.size + 1) _ #[.int .u64 0, .int .u64 0, .bool false, .int .i64 0, .int .u32 0, .slice none 0 0] 105 rfl rfl HT5.out infoSummary rfl (by simp [Value.oneCell']) ?_)
        | (refine wpList_load_row rfl 105 (.tmp 4) rfl p3 rfl _ _ _ _ HX5.out Try.underlying105 rfl (by rw [HVS.out]; exact infoSummary) ?_)
        | (refine wpList_store_row rfl 105 (.tmp 2) (.tmp 30) rfl (w.heap.size + 1) _ V 105 rfl rfl HT5.out (by rw [HVS.out]; exact infoSummary) (by rw [HVS.out]; rfl) HV1.out ?_))
      have hld := run_loadVar_row (P := Try.prog) (w5.setRow (w.heap.size + 1) #[.int .u64 0, .int .u64 0, .bool false, .int .i64 0, .int .u32 0, .slice none 0 0]) (w.heap.size + 1) 105 105 #[.int .u64 0, .int .u64 0, .bool false, .int .i64 0, .int .u32 0, .slice none 0 0] (0, 0) _ (setRow_heap _ _ _ _ _ _ HT5.out) Try.underlying105 (by simp) infoSummary
      exact bodyPost_ret (v := .tuple #[.agg #[.int .u64 0, .int .u64 0, .bool false, .int .i64 0, .int .u32 0, .slice none 0 0], .int .i64 21]) (results_cell2 Try.results41 rfl rfl hld) rfl (readSum_no HNO.out rfl (below_row HB5.out (by omega)))
    | true =>
      by_cases hq : m = l
      · have HYES : Hid (sumOk l = true) := Lib.hid (by rw [HOK.out, decide_eq_true hq]; rfl)
        simp only [decide_eq_true hq] at heq
        clear hq
        go_wp2_with (first
          | (refine wpList_load_row_g rfl 29 (.tmp 6) rfl p5 rfl _ _ _ _ HY5.out Try.underlying29 rfl (by rw [HMS.out]; exact size_sec) ?_)
          | (refine wpList_load_row_g rfl 29 (.tmp 1) rfl w.heap.size rfl _ _ _ _ HG5.out Try.underlying29 rfl (by rw [HSZ.out]; exact size_sec) ?_)
          | (refine wpList_build_at rfl 105 _ rfl [] (by simp) #[.int .u64 0, .int .u64 0, .bool false, .int .i64 0, .int .u32 0, .slice none 0 0] built_sum ?_)
          | (refine wpList_store_row rfl 105 (.tmp 2) (.tmp 29) rfl (w.heap.size + 1) _ #[.int .u64 0, .int .u64 0, .bool false, .int .i64 0, .int .u32 0, .slice none 0 0] 105 rfl rfl HT5.out infoSummary rfl (by simp [Value.oneCell']) ?_)
          | (refine wpList_load_row rfl 105 (.tmp 4) rfl p3 rfl _ _ _ _ HX5.out Try.underlying105 rfl (by rw [HVS.out]; exact infoSummary) ?_)
          | (refine wpList_store_row rfl 105 (.tmp 2) (.tmp 30) rfl (w.heap.size + 1) _ V 105 rfl rfl HT5.out (by rw [HVS.out]; exact infoSummary) (by rw [HVS.out]; rfl) HV1.out ?_))
        have hld := run_loadVar_row (P := Try.prog) (w5.setRow (w.heap.size + 1) V) (w.heap.size + 1) 105 105 V (0, 0) _ (setRow_heap _ _ _ _ _ _ HT5.out) Try.underlying105 (by simp) (by rw [HVS.out]; exact infoSummary)
        exact bodyPost_ret (v := .tuple #[.agg V, .int .i64 0]) (results_cell2 Try.results41 rfl rfl hld) rfl (readSum_yes HYES.out HX.out (by rw [HVE.out]) (own_setRow HO5.out (by have := HS1.out; omega) (by have := HS1.out; omega)) (below_row HB5.out (by omega)))
      · have HNO : Hid (sumOk l = false) := Lib.hid (by rw [HOK.out, decide_eq_false hq]; rfl)
        simp only [decide_eq_false hq] at heq
        clear hq
        go_wp2_with (first
          | (refine wpList_load_row_g rfl 29 (.tmp 6) rfl p5 rfl _ _ _ _ HY5.out Try.underlying29 rfl (by rw [HMS.out]; exact size_sec) ?_)
          | (refine wpList_load_row_g rfl 29 (.tmp 1) rfl w.heap.size rfl _ _ _ _ HG5.out Try.underlying29 rfl (by rw [HSZ.out]; exact size_sec) ?_)
          | (refine wpList_build_at rfl 105 _ rfl [] (by simp) #[.int .u64 0, .int .u64 0, .bool false, .int .i64 0, .int .u32 0, .slice none 0 0] built_sum ?_)
          | (refine wpList_store_row rfl 105 (.tmp 2) (.tmp 29) rfl (w.heap.size + 1) _ #[.int .u64 0, .int .u64 0, .bool false, .int .i64 0, .int .u32 0, .slice none 0 0] 105 rfl rfl HT5.out infoSummary rfl (by simp [Value.oneCell']) ?_)
          | (refine wpList_load_row rfl 105 (.tmp 4) rfl p3 rfl _ _ _ _ HX5.out Try.underlying105 rfl (by rw [HVS.out]; exact infoSummary) ?_)
          | (refine wpList_store_row rfl 105 (.tmp 2) (.tmp 30) rfl (w.heap.size + 1) _ V 105 rfl rfl HT5.out (by rw [HVS.out]; exact infoSummary) (by rw [HVS.out]; rfl) HV1.out ?_))
        have hld := run_loadVar_row (P := Try.prog) (w5.setRow (w.heap.size + 1) #[.int .u64 0, .int .u64 0, .bool false, .int .i64 0, .int .u32 0, .slice none 0 0]) (w.heap.size + 1) 105 105 #[.int .u64 0, .int .u64 0, .bool false, .int .i64 0, .int .u32 0, .slice none 0 0] (0, 0) _ (setRow_heap _ _ _ _ _ _ HT5.out) Try.underlying105 (by simp) infoSummary
        exact bodyPost_ret (v := .tuple #[.agg #[.int .u64 0, .int .u64 0, .bool false, .int .i64 0, .int .u32 0, .slice none 0 0], .int .i64 21]) (results_cell2 Try.results41 rfl rfl hld) rfl (readSum_no HNO.out rfl (below_row HB5.out (by omega)))
end Go.Proofs.Ytlcbfpcabalgcaa
