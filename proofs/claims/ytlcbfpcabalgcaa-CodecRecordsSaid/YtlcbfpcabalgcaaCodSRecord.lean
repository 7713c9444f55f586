/-
  Codec: lists of records, read: the reference's.
-/
import Derived.Test.YtlcbfpcabalgcaaCodRRecord
import Derived.Test.YtlcbfpcabalgcaaCodM
namespace Go.Proofs.Ytlcbfpcabalgcaa
open Go.RowKit
set_option linter.unusedVariables false
set_option linter.unusedSimpArgs false
set_option linter.unnecessarySimpa false
def recordW : List Nat := [2, 4, 2, 1]
theorem record_recs (b : List UInt8) (J k i : Nat) (hk : k < J) (hi : i < 4) : (recs recordW b J)[k * 4 + i]? = (vals recordW b (k * 9))[i]? := by
  induction J with
  | zero => omega
  | succ J ih =>
    rw [recs]
    have hl : (recs recordW b J).length = J * 4 := recs_len recordW b J
    rcases Nat.lt_or_ge k J with h | h
    · rw [List.getElem?_append_left (by rw [hl]; have := Nat.mul_le_mul_right 4 h; rw [Nat.succ_mul] at this; omega)]
      exact ih h
    · obtain rfl : k = J := by omega
      rw [List.getElem?_append_right (by rw [hl]; omega), hl, Nat.add_sub_cancel_left]
      rfl
theorem record_vals (b : List UInt8) (k : Nat) (h : (k + 1) * 9 ≤ b.length) : vals recordW b (k * 9) = [rN b (0 + k * 9) 2, rN b ((0 + k * 9) + 2) 4, rN b (((0 + k * 9) + 2) + 4) 2, rN b ((((0 + k * 9) + 2) + 4) + 2) 1] := by
  unfold recordW
  simp only [vals, Nat.zero_add]
  rw [rN_part b _ 2 (by decide) (by omega), rN_part b _ 4 (by decide) (by omega), rN_part b _ 2 (by decide) (by omega), rN_part b _ 1 (by decide) (by omega)]
/-- What the reference's reading comes to. -/
def RrRcd (w : World) (l : List UInt8) (e : Ending) (w' : World) : Prop :=
  ∃ v', e = .returned (.tuple #[v', .bool (recordRdOk l)]) ∧ w'.ownsRow w.heap.size 90 4 v' (recordRdL l).length (rowsOf Rcd.cells (recordRdL l)) ∧ Below w.heap.size w w'
theorem rrRcd_no {w w' : World} {l : List UInt8} {e : Ending} (h : recordRdOk l = false) (he : e = .returned (.tuple #[.slice none 0 0, .bool false])) (hb : Below w.heap.size w w') : RrRcd w l e w' := by
  unfold RrRcd recordRdL
  rw [h]
  exact ⟨_, he, own_nilk _ _ _ _, hb⟩
theorem rrRcd_yes {w w' : World} {l : List UInt8} {e : Ending} {v' : Value} {L : List Rcd} (h : recordRdOk l = true) (hL : records (openL l) 0 ((openL l).length / 9) = L) (he : e = .returned (.tuple #[v', .bool true])) (ho : w'.ownsRow w.heap.size 90 4 v' L.length (rowsOf Rcd.cells L)) (hb : Below w.heap.size w w') : RrRcd w l e w' := by
  unfold RrRcd recordRdL
  rw [h, if_pos rfl, hL]
  exact ⟨_, he, ho, hb⟩
set_option maxRecDepth 10000 in
set_option maxHeartbeats 8000000 in
theorem rreadRecords_any (l : List UInt8) (w : World) (hl : l.length = 128) : Calls Try.prog 37 #[secV l] w (RrRcd w l) := by
  have HSZ : Hid ((bvs l).toArray.size = 128) := by unfold Hid; rw [secV_size, hl]
  have HL := Lib.hid hl
  obtain ⟨b, hb⟩ : ∃ b, openL l = b := ⟨_, rfl⟩
  have HBE := Lib.hid hb
  have HBL := Lib.hid (show b.length ≤ 255 by rw [← hb]; exact openL_le l)
  have hb1 : Below w.heap.size w (w.alloc (.cells (bvs l).toArray 28 (0, 0))) := (Below.refl _ _).alloc (Nat.le_refl _) _
  have HG1 := Lib.hid (heap_alloc_last w (.cells (bvs l).toArray 28 (0, 0)))
  have HB1 := Lib.hid hb1
  clear hb1 hl hb
  unfold secV
  go_enter Try.func37, Try.ntmps37
  go_upto_region 1 with fail
  revert HG1 HB1
  generalize w.alloc (.cells (bvs l).toArray 28 (0, 0)) = w1
  intro HG1 HB1
  have hb2 : Below w1.heap.size w1 (w1.alloc (.cells #[.int .i64 2, .int .i64 4, .int .i64 2, .int .i64 1] 3 (0, 0))) := (Below.refl _ _).alloc (Nat.le_refl _) _
  have hrw := own_rows (F := fun _ => False) numF_len (own_new (w := w1) (T := 3) (k := 1) (n := 4) (cs := rowsOf numF recordW) rfl (by decide)) rfl (fun _ _ => id)
  have HOPN := Lib.hid (ropened_any 7 l recordW _ (w1.alloc (.cells (rowsOf numF recordW).toArray 3 (0, 0))) HL.out hrw (by decide) (by decide) (by decide))
  unfold OdTo secV at HOPN
  have hok2 : odOk 7 l recordW = ((openB l && decide (openK l = 7)) && decide (b.length % 9 = 0)) := by unfold odOk; rw [HBE.out]; rfl
  obtain ⟨ok2, hok2'⟩ : ∃ ok2, odOk 7 l recordW = ok2 := ⟨_, rfl⟩
  have HK2 := Lib.hid (hok2'.symm.trans hok2)
  rw [hok2', HBE.out, show recordW.sum = 9 from rfl] at HOPN
  have HB2 := Lib.hid (bnext HB1.out hb2)
  have hokd : recordRdOk l = (ok2 && recordsMay (records b 0 (b.length / 9))) := by unfold recordRdOk; rw [HBE.out, ← HK2.out.symm]; simp only [Bool.and_assoc]
  have HOKD := Lib.hid hokd
  clear hok2 hok2' hrw hb2 hokd
  go_upto_region 2 with (first
    | (refine wpList_load_row rfl 28 (.tmp 1) rfl w.heap.size rfl _ _ _ _ HG1.out Try.underlying28 rfl (by rw [HSZ.out]; exact size_arr) ?_)
    | (go_at_call 52; go_must (refine HOPN.out.mono ?_; rintro e w4 ⟨v4, rfl, ho4, hb4⟩; have HO4 := Lib.hid ho4; have HB4 := Lib.hid (bnext HB2.out hb4); clear ho4 hb4)))
  clear HOPN HG1 HB1 HB2
  cases ok2 with
  | false =>
    have hno : recordRdOk l = false := by rw [HOKD.out]; rfl
    have HNO := Lib.hid hno
    have hv0 := HO4.out
    rw [if_neg (by decide)] at hv0
    obtain ⟨s4, q4, rfl⟩ : ∃ s4 q4, v4 = .slice s4 0 q4 := own_slice1 (n := 0) hv0
    clear hno hv0 HO4
    go_wp2
    go_loopw [5, 6, 7] (fun vk vo i wr => vk = .bool false ∧ vo = .slice none 0 0 ∧ i = .int .i64 0 ∧ Hid (wr = w4)) (fun _ _ _ _ => 0)
    case atStart => exact ⟨rfl, rfl, rfl, Lib.hid rfl⟩
    case round =>
      obtain ⟨rfl, rfl, rfl, he⟩ := hrel
      have he := he.out
      subst he
      go_wp2
      go_ret2
      exact rrRcd_no HNO.out rfl HB4.out
  | true =>
    have hho := HO4.out
    rw [if_pos rfl] at hho
    have hb0 := HK2.out
    simp only [Bool.true_eq, Bool.and_eq_true, decide_eq_true_eq] at hb0
    have hmod := hb0.2
    obtain ⟨J, hJ⟩ : ∃ J, b.length / 9 = J := ⟨_, rfl⟩
    have hlenJ : b.length = J * 9 := by have := Nat.div_add_mod b.length 9; rw [hmod, hJ] at this; omega
    rw [hJ] at hho
    have hnl : (recs recordW b J).length = J * 4 := recs_len recordW b J
    rw [hnl] at hho
    rw [hJ] at HOKD
    obtain ⟨N, hN⟩ : ∃ N, J * 4 = N := ⟨_, rfl⟩
    rw [hN] at hho
    have HN := Lib.hid hN
    have hN1 : N ≤ 2000 := by have := HBL.out; omega
    have HO := Lib.hid hho
    have HLJ := Lib.hid hlenJ
    have HJE := Lib.hid hJ
    obtain ⟨s4, q4, rfl⟩ : ∃ s4 q4, v4 = .slice s4 N q4 := own_slice1 hho
    have hJ255 : J ≤ 255 := by have := HBL.out; omega
    clear HO4 hho hb0 hmod hlenJ hnl hJ hN
    go_wp2
    go_loopw [5, 6, 7] (fun vk vo i wr => ∃ k : Nat, k ≤ J ∧ i = .int .i64 ((k * 4 : Nat) : Int) ∧ vk = .bool ((records b 0 k).all recordMay) ∧ Hid (wr.ownsRow w4.heap.size 90 4 vo k (rowsOf Rcd.cells (records b 0 k))) ∧ Hid (Below w4.heap.size w4 wr)) (fun _ _ i _ => (N - intOf i).toNat)
    case atStart => exact ⟨0, by omega, by rw [Nat.zero_mul]; rfl, rfl, Lib.hid (own_nilk _ _ _ _), Lib.hid (Below.refl _ _)⟩
    case round =>
      obtain ⟨k, hk, rfl, rfl, HOk, HBk⟩ := hrel
      obtain ⟨so, co, rfl⟩ := own_slice1 HOk.out
      obtain ⟨a, ha⟩ : ∃ a, k * 4 = a := ⟨_, rfl⟩
      rw [ha]
      have HA := Lib.hid ha
      obtain ⟨al, hal⟩ : ∃ al, (records b 0 k).all recordMay = al := ⟨_, rfl⟩
      rw [hal]
      have HAL := Lib.hid hal
      have haJ : a ≤ N := by rw [← ha, ← HN.out]; exact Nat.mul_le_mul_right _ hk
      by_cases hlt : k < J
      · have hkn : a + 4 ≤ N := by rw [← HN.out]; have := Nat.mul_le_mul_right 4 hlt; rw [Nat.succ_mul] at this; omega
        have hkR : (k + 1) * 9 ≤ b.length := by rw [HLJ.out]; exact Nat.mul_le_mul_right 9 hlt
        obtain ⟨g, hse, hgb, hgl, hcs⟩ := own_at HO.out (by omega)
        subst hse
        have hget : ∀ (i : Nat) (q : Nat), [rN b (0 + k * 9) 2, rN b ((0 + k * 9) + 2) 4, rN b (((0 + k * 9) + 2) + 4) 2, rN b ((((0 + k * 9) + 2) + 4) + 2) 1][i]? = some q → (i64s (recs recordW b J))[a + i]? = some (.int .i64 (q : Int)) := fun i q hq => by
          have hi : i < 4 := (List.getElem?_eq_some_iff.1 hq).1
          have h1 := record_recs b J k i hlt hi
          rw [ha, record_vals b k hkR, hq] at h1
          simp only [i64s, List.getElem?_map, h1, Option.map_some]
        obtain ⟨q0, hq0⟩ : ∃ q, rN b (0 + k * 9) 2 = q := ⟨_, rfl⟩
        obtain ⟨q1, hq1⟩ : ∃ q, rN b ((0 + k * 9) + 2) 4 = q := ⟨_, rfl⟩
        obtain ⟨q2, hq2⟩ : ∃ q, rN b (((0 + k * 9) + 2) + 4) 2 = q := ⟨_, rfl⟩
        obtain ⟨q3, hq3⟩ : ∃ q, rN b ((((0 + k * 9) + 2) + 4) + 2) 1 = q := ⟨_, rfl⟩
        have d0 : w4.cell? ⟨g, a, none⟩ = some (.int .i64 (q0 : Int)) := hcs (a + 0) _ (by rw [← hq0]; exact hget 0 _ rfl)
        have d1 : w4.cell? ⟨g, a + 1, none⟩ = some (.int .i64 (q1 : Int)) := hcs (a + 1) _ (by rw [← hq1]; exact hget 1 _ rfl)
        have d2 : w4.cell? ⟨g, a + 2, none⟩ = some (.int .i64 (q2 : Int)) := hcs (a + 2) _ (by rw [← hq2]; exact hget 2 _ rfl)
        have d3 : w4.cell? ⟨g, a + 3, none⟩ = some (.int .i64 (q3 : Int)) := hcs (a + 3) _ (by rw [← hq3]; exact hget 3 _ rfl)
        have lq0 : q0 < 4294967296 := by rw [← hq0]; exact Nat.lt_of_lt_of_le (rN_lt b _ 2) (show 256 ^ 2 ≤ 4294967296 by decide)
        have lq1 : q1 < 4294967296 := by rw [← hq1]; exact Nat.lt_of_lt_of_le (rN_lt b _ 4) (show 256 ^ 4 ≤ 4294967296 by decide)
        have lq2 : q2 < 4294967296 := by rw [← hq2]; exact Nat.lt_of_lt_of_le (rN_lt b _ 2) (show 256 ^ 2 ≤ 4294967296 by decide)
        have lq3 : q3 < 4294967296 := by rw [← hq3]; exact Nat.lt_of_lt_of_le (rN_lt b _ 1) (show 256 ^ 1 ≤ 4294967296 by decide)
        have hrow : (rrecord b (0 + k * 9)).cells = [.int .u32 (q0 : Int), .int .u32 (q1 : Int), .int .i64 (q2 : Int), .int .i64 (q3 : Int)] := by unfold rrecord Rcd.cells; dsimp only; rw [hq0, hq1, hq2, hq3]
        have hmayq : recordMay (rrecord b (0 + k * 9)) = decide ((q3 : Int) ≤ 2) := by
          unfold recordMay rrecord
          dsimp only
          rw [hq3, decide_eq_decide]; omega
        have HROW := Lib.hid hrow
        have HMQ := Lib.hid hmayq
        have HD : Hid ((fun w' : World => w'.cell? ⟨g, a, none⟩ = some (.int .i64 (q0 : Int)) ∧ w'.cell? ⟨g, a + 1, none⟩ = some (.int .i64 (q1 : Int)) ∧ w'.cell? ⟨g, a + 2, none⟩ = some (.int .i64 (q2 : Int)) ∧ w'.cell? ⟨g, a + 3, none⟩ = some (.int .i64 (q3 : Int))) w4) := Lib.hid ⟨d0, d1, d2, d3⟩
        have hkp : ∀ w' : World, Below w4.heap.size w4 w' → (fun w' : World => w'.cell? ⟨g, a, none⟩ = some (.int .i64 (q0 : Int)) ∧ w'.cell? ⟨g, a + 1, none⟩ = some (.int .i64 (q1 : Int)) ∧ w'.cell? ⟨g, a + 2, none⟩ = some (.int .i64 (q2 : Int)) ∧ w'.cell? ⟨g, a + 3, none⟩ = some (.int .i64 (q3 : Int))) w' := fun w' h => ⟨(h.cell (p := ⟨g, a, none⟩) hgl).trans d0, (h.cell (p := ⟨g, a + 1, none⟩) hgl).trans d1, (h.cell (p := ⟨g, a + 2, none⟩) hgl).trans d2, (h.cell (p := ⟨g, a + 3, none⟩) hgl).trans d3⟩
        have HKP := Lib.hid hkp
        have hsz : (a : Int) + 3 < (N : Int) := by omega
        have wa1 : IntKind.i64.wrap ((a : Int) + 1) = (a : Int) + 1 := IntWalk.i64_in _ (by omega)
        have wa2 : IntKind.i64.wrap ((a : Int) + 2) = (a : Int) + 2 := IntWalk.i64_in _ (by omega)
        have wa3 : IntKind.i64.wrap ((a : Int) + 3) = (a : Int) + 3 := IntWalk.i64_in _ (by omega)
        have wt1 : ((a : Int) + 1).toNat = a + 1 := by omega
        have wt2 : ((a : Int) + 2).toNat = a + 2 := by omega
        have wt3 : ((a : Int) + 3).toNat = a + 3 := by omega
        have wp1 : (0 : Int) ≤ (a : Int) + 1 := by omega
        have wp2 : (0 : Int) ≤ (a : Int) + 2 := by omega
        have wp3 : (0 : Int) ≤ (a : Int) + 3 := by omega
        have wb1 : (a : Int) + 1 < (N : Int) := by omega
        have wb2 : (a : Int) + 2 < (N : Int) := by omega
        have wb3 : (a : Int) + 3 < (N : Int) := by omega
        have wb0 : (a : Int) < (N : Int) := by omega
        have wc0 : IntKind.u32.wrap (q0 : Int) = (q0 : Int) := by unfold IntKind.wrap; simp [IntKind.signed, IntKind.bits]; omega
        have wc1 : IntKind.u32.wrap (q1 : Int) = (q1 : Int) := by unfold IntKind.wrap; simp [IntKind.signed, IntKind.bits]; omega
        clear hget hrow hmayq hkp d0 d1 d2 d3 hq0 hq1 hq2 hq3 lq0 lq1 lq2 lq3 hcs hkR hal ha
        go_upto_region 6 with fail
        clear wp1
        have wp1 : (0 : Int) ≤ (a : Int) + 1 := by omega
        refine wp_region_held_drew (S := (fun w' => (w'.cell? ⟨g, a, none⟩ = some (.int .i64 (q0 : Int)) ∧ w'.cell? ⟨g, a + 1, none⟩ = some (.int .i64 (q1 : Int)) ∧ w'.cell? ⟨g, a + 2, none⟩ = some (.int .i64 (q2 : Int)) ∧ w'.cell? ⟨g, a + 3, none⟩ = some (.int .i64 (q3 : Int))) ∧ Below w4.heap.size w4 w')) (by kernel_rfl) (by exact ⟨HKP.out _ HBk.out.drew, HBk.out.drew⟩) (fun hHeld => ?_)
        refine take1_ (i := 0) (v := ?_) (a' := ?_) (some 21) #[true, false, false, false, false, false, false, false, false, false, false, false, false, false, false, false, false, false, false, false, false, false, false, false, false, false] rfl rfl (by kernel_rfl) (fun _ _ _ h => h) (Or.inl ⟨by rfl, ?_⟩) hHeld ?_ ?_
        rotate_left
        · (intro w hSw; (try dsimp only at hSw); obtain ⟨⟨d0, d1, d2, d3⟩, hB⟩ := hSw; go_simp; (try with_reducible rfl))
        rotate_left
        · simp only [Act.put, List.setIfInBounds_toArray, List.set_cons_zero, List.set_cons_succ]
          rfl
        refine take1_ (i := 1) (v := ?_) (a' := ?_) (some 22) #[true, true, false, false, false, false, false, false, false, false, false, false, false, false, false, false, false, false, false, false, false, false, false, false, false, false] rfl rfl (by kernel_rfl) (fun _ _ _ h => h) (Or.inl ⟨by rfl, ?_⟩) hHeld ?_ ?_
        rotate_left
        · (intro w hSw; (try dsimp only at hSw); obtain ⟨⟨d0, d1, d2, d3⟩, hB⟩ := hSw; go_simp; (try with_reducible rfl))
        rotate_left
        · simp only [Act.put, List.setIfInBounds_toArray, List.set_cons_zero, List.set_cons_succ]
          rfl
        refine take1_ (i := 2) (v := ?_) (a' := ?_) (some 23) #[true, true, true, false, false, false, false, false, false, false, false, false, false, false, false, false, false, false, false, false, false, false, false, false, false, false] rfl rfl (by kernel_rfl) (fun _ _ _ h => h) (Or.inl ⟨by rfl, ?_⟩) hHeld ?_ ?_
        rotate_left
        · (intro w hSw; (try dsimp only at hSw); obtain ⟨⟨d0, d1, d2, d3⟩, hB⟩ := hSw; go_simp; (try with_reducible rfl))
        rotate_left
        · simp only [Act.put, List.setIfInBounds_toArray, List.set_cons_zero, List.set_cons_succ]
          rfl
        refine take1_ (i := 3) (v := ?_) (a' := ?_) (some 24) #[true, true, true, true, false, false, false, false, false, false, false, false, false, false, false, false, false, false, false, false, false, false, false, false, false, false] rfl rfl (by kernel_rfl) (fun _ _ _ h => h) (Or.inl ⟨by rfl, ?_⟩) hHeld ?_ ?_
        rotate_left
        · (intro w hSw; (try dsimp only at hSw); obtain ⟨⟨d0, d1, d2, d3⟩, hB⟩ := hSw; go_simp; (try with_reducible rfl))
        rotate_left
        · simp only [Act.put, List.setIfInBounds_toArray, List.set_cons_zero, List.set_cons_succ]
          rfl
        refine take1_ (i := 4) (v := ?_) (a' := ?_) (some 25) #[true, true, true, true, true, false, false, false, false, false, false, false, false, false, false, false, false, false, false, false, false, false, false, false, false, false] rfl rfl (by kernel_rfl) (fun _ _ _ h => h) (Or.inl ⟨by rfl, ?_⟩) hHeld ?_ ?_
        rotate_left
        · (intro w hSw; (try dsimp only at hSw); obtain ⟨⟨d0, d1, d2, d3⟩, hB⟩ := hSw; go_simp; (try with_reducible rfl))
        rotate_left
        · simp only [Act.put, List.setIfInBounds_toArray, List.set_cons_zero, List.set_cons_succ]
          rfl
        refine take1_ (i := 5) (v := ?_) (a' := ?_) (some 26) #[true, true, true, true, true, true, false, false, false, false, false, false, false, false, false, false, false, false, false, false, false, false, false, false, false, false] rfl rfl (by kernel_rfl) (fun _ _ _ h => h) (Or.inl ⟨by rfl, ?_⟩) hHeld ?_ ?_
        rotate_left
        · (intro w hSw; (try dsimp only at hSw); obtain ⟨⟨d0, d1, d2, d3⟩, hB⟩ := hSw; go_simp; (try with_reducible rfl))
        rotate_left
        · simp only [Act.put, List.setIfInBounds_toArray, List.set_cons_zero, List.set_cons_succ]
          rfl
        refine take1_ (i := 6) (v := ?_) (a' := ?_) (some 27) #[true, true, true, true, true, true, true, false, false, false, false, false, false, false, false, false, false, false, false, false, false, false, false, false, false, false] rfl rfl (by kernel_rfl) (fun _ _ _ h => h) (Or.inl ⟨by rfl, ?_⟩) hHeld ?_ ?_
        rotate_left
        · (intro w hSw; (try dsimp only at hSw); obtain ⟨⟨d0, d1, d2, d3⟩, hB⟩ := hSw; go_simp; (try with_reducible rfl))
        rotate_left
        · simp only [Act.put, List.setIfInBounds_toArray, List.set_cons_zero, List.set_cons_succ]
          rfl
        refine take1_ (i := 7) (v := ?_) (a' := ?_) (some 28) #[true, true, true, true, true, true, true, true, false, false, false, false, false, false, false, false, false, false, false, false, false, false, false, false, false, false] rfl rfl (by kernel_rfl) (fun _ _ _ h => h) (Or.inl ⟨by rfl, ?_⟩) hHeld ?_ ?_
        rotate_left
        · (intro w hSw; (try dsimp only at hSw); obtain ⟨⟨d0, d1, d2, d3⟩, hB⟩ := hSw; go_simp; (try with_reducible rfl))
        rotate_left
        · simp only [Act.put, List.setIfInBounds_toArray, List.set_cons_zero, List.set_cons_succ]
          rfl
        refine take1_ (i := 8) (v := ?_) (a' := ?_) (some 29) #[true, true, true, true, true, true, true, true, true, false, false, false, false, false, false, false, false, false, false, false, false, false, false, false, false, false] rfl rfl (by kernel_rfl) (fun _ _ _ h => h) (Or.inl ⟨by rfl, ?_⟩) hHeld ?_ ?_
        rotate_left
        · (intro w hSw; (try dsimp only at hSw); obtain ⟨⟨d0, d1, d2, d3⟩, hB⟩ := hSw; go_simp; (try with_reducible rfl))
        rotate_left
        · simp only [Act.put, List.setIfInBounds_toArray, List.set_cons_zero, List.set_cons_succ]
          rfl
        refine take1_ (i := 9) (v := ?_) (a' := ?_) (some 30) #[true, true, true, true, true, true, true, true, true, true, false, false, false, false, false, false, false, false, false, false, false, false, false, false, false, false] rfl rfl (by kernel_rfl) (fun _ _ _ h => h) (Or.inl ⟨by rfl, ?_⟩) hHeld ?_ ?_
        rotate_left
        · (intro w hSw; (try dsimp only at hSw); obtain ⟨⟨d0, d1, d2, d3⟩, hB⟩ := hSw; go_simp; (try with_reducible rfl))
        rotate_left
        · simp only [Act.put, List.setIfInBounds_toArray, List.set_cons_zero, List.set_cons_succ]
          rfl
        refine take1_ (i := 10) (v := ?_) (a' := ?_) (some 31) #[true, true, true, true, true, true, true, true, true, true, true, false, false, false, false, false, false, false, false, false, false, false, false, false, false, false] rfl rfl (by kernel_rfl) (fun _ _ _ h => h) (Or.inl ⟨by rfl, ?_⟩) hHeld ?_ ?_
        rotate_left
        · (intro w hSw; (try dsimp only at hSw); obtain ⟨⟨d0, d1, d2, d3⟩, hB⟩ := hSw; go_simp; (try with_reducible rfl))
        rotate_left
        · simp only [Act.put, List.setIfInBounds_toArray, List.set_cons_zero, List.set_cons_succ]
          rfl
        refine take1_ (i := 11) (v := ?_) (a' := ?_) (some 32) #[true, true, true, true, true, true, true, true, true, true, true, true, false, false, false, false, false, false, false, false, false, false, false, false, false, false] rfl rfl (by kernel_rfl) (fun _ _ _ h => h) (Or.inl ⟨by rfl, ?_⟩) hHeld ?_ ?_
        rotate_left
        · (intro w hSw; (try dsimp only at hSw); obtain ⟨⟨d0, d1, d2, d3⟩, hB⟩ := hSw; go_simp; (try with_reducible rfl))
        rotate_left
        · simp only [Act.put, List.setIfInBounds_toArray, List.set_cons_zero, List.set_cons_succ]
          rfl
        refine take1_ (i := 12) (v := ?_) (a' := ?_) (some 33) #[true, true, true, true, true, true, true, true, true, true, true, true, true, false, false, false, false, false, false, false, false, false, false, false, false, false] rfl rfl (by kernel_rfl) (fun _ _ _ h => h) (Or.inl ⟨by rfl, ?_⟩) hHeld ?_ ?_
        rotate_left
        · (intro w hSw; (try dsimp only at hSw); obtain ⟨⟨d0, d1, d2, d3⟩, hB⟩ := hSw; go_simp; (try with_reducible rfl))
        rotate_left
        · simp only [Act.put, List.setIfInBounds_toArray, List.set_cons_zero, List.set_cons_succ]
          rfl
        refine take1_ (i := 13) (v := ?_) (a' := ?_) (some 34) #[true, true, true, true, true, true, true, true, true, true, true, true, true, true, false, false, false, false, false, false, false, false, false, false, false, false] rfl rfl (by kernel_rfl) (fun _ _ _ h => h) (Or.inl ⟨by rfl, ?_⟩) hHeld ?_ ?_
        rotate_left
        · (intro w hSw; (try dsimp only at hSw); obtain ⟨⟨d0, d1, d2, d3⟩, hB⟩ := hSw; go_simp; (try with_reducible rfl))
        rotate_left
        · simp only [Act.put, List.setIfInBounds_toArray, List.set_cons_zero, List.set_cons_succ]
          rfl
        refine take1_ (i := 14) (v := ?_) (a' := ?_) (some 35) #[true, true, true, true, true, true, true, true, true, true, true, true, true, true, true, false, false, false, false, false, false, false, false, false, false, false] rfl rfl (by kernel_rfl) (fun _ _ _ h => h) (Or.inl ⟨by rfl, ?_⟩) hHeld ?_ ?_
        rotate_left
        · (intro w hSw; (try dsimp only at hSw); obtain ⟨⟨d0, d1, d2, d3⟩, hB⟩ := hSw; go_simp; (try with_reducible rfl))
        rotate_left
        · simp only [Act.put, List.setIfInBounds_toArray, List.set_cons_zero, List.set_cons_succ]
          rfl
        refine take1_ (i := 15) (v := ?_) (a' := ?_) (some 36) #[true, true, true, true, true, true, true, true, true, true, true, true, true, true, true, true, false, false, false, false, false, false, false, false, false, false] rfl rfl (by kernel_rfl) (fun _ _ _ h => h) (Or.inl ⟨by rfl, ?_⟩) hHeld ?_ ?_
        rotate_left
        · (intro w hSw; (try dsimp only at hSw); obtain ⟨⟨d0, d1, d2, d3⟩, hB⟩ := hSw; go_simp; (try with_reducible rfl))
        rotate_left
        · simp only [Act.put, List.setIfInBounds_toArray, List.set_cons_zero, List.set_cons_succ]
          rfl
        refine take1_ (i := 16) (v := ?_) (a' := ?_) (some 37) #[true, true, true, true, true, true, true, true, true, true, true, true, true, true, true, true, true, false, false, false, false, false, false, false, false, false] rfl rfl (by kernel_rfl) (fun _ _ _ h => h) (Or.inl ⟨by rfl, ?_⟩) hHeld ?_ ?_
        rotate_left
        · (intro w hSw; (try dsimp only at hSw); obtain ⟨⟨d0, d1, d2, d3⟩, hB⟩ := hSw; go_simp; (try with_reducible rfl))
        rotate_left
        · simp only [Act.put, List.setIfInBounds_toArray, List.set_cons_zero, List.set_cons_succ]
          rfl
        refine take1_ (i := 17) (v := ?_) (a' := ?_) (some 38) #[true, true, true, true, true, true, true, true, true, true, true, true, true, true, true, true, true, true, false, false, false, false, false, false, false, false] rfl rfl (by kernel_rfl) (fun _ _ _ h => h) (Or.inl ⟨by rfl, ?_⟩) hHeld ?_ ?_
        rotate_left
        · (intro w hSw; (try dsimp only at hSw); obtain ⟨⟨d0, d1, d2, d3⟩, hB⟩ := hSw; go_simp; (try with_reducible rfl))
        rotate_left
        · simp only [Act.put, List.setIfInBounds_toArray, List.set_cons_zero, List.set_cons_succ]
          rfl
        refine take1_ (i := 18) (v := ?_) (a' := ?_) (some 39) #[true, true, true, true, true, true, true, true, true, true, true, true, true, true, true, true, true, true, true, false, false, false, false, false, false, false] rfl rfl (by kernel_rfl) (fun _ _ _ h => h) (Or.inl ⟨by rfl, ?_⟩) hHeld ?_ ?_
        rotate_left
        · (intro w hSw; (try dsimp only at hSw); obtain ⟨⟨d0, d1, d2, d3⟩, hB⟩ := hSw; go_simp; (try with_reducible rfl))
        rotate_left
        · simp only [Act.put, List.setIfInBounds_toArray, List.set_cons_zero, List.set_cons_succ]
          rfl
        refine take1_ (i := 19) (v := ?_) (a' := ?_) (some 40) #[true, true, true, true, true, true, true, true, true, true, true, true, true, true, true, true, true, true, true, true, false, false, false, false, false, false] rfl rfl (by kernel_rfl) (fun _ _ _ h => h) (Or.inl ⟨by rfl, ?_⟩) hHeld ?_ ?_
        rotate_left
        · (intro w hSw; (try dsimp only at hSw); obtain ⟨⟨d0, d1, d2, d3⟩, hB⟩ := hSw; go_simp; (try with_reducible rfl))
        rotate_left
        · simp only [Act.put, List.setIfInBounds_toArray, List.set_cons_zero, List.set_cons_succ]
          rfl
        refine take1_ (i := 20) (v := ?_) (a' := ?_) (some 41) #[true, true, true, true, true, true, true, true, true, true, true, true, true, true, true, true, true, true, true, true, true, false, false, false, false, false] rfl rfl (by kernel_rfl) (fun _ _ _ h => h) (Or.inl ⟨by rfl, ?_⟩) hHeld ?_ ?_
        rotate_left
        · (intro w hSw; (try dsimp only at hSw); obtain ⟨⟨d0, d1, d2, d3⟩, hB⟩ := hSw; go_simp; (try with_reducible rfl))
        rotate_left
        · simp only [Act.put, List.setIfInBounds_toArray, List.set_cons_zero, List.set_cons_succ]
          rfl
        refine take1_ (i := 21) (v := ?_) (a' := ?_) (some 42) #[true, true, true, true, true, true, true, true, true, true, true, true, true, true, true, true, true, true, true, true, true, true, false, false, false, false] rfl rfl (by kernel_rfl) (fun _ _ _ h => h) (Or.inl ⟨by rfl, ?_⟩) hHeld ?_ ?_
        rotate_left
        · (intro w hSw; (try dsimp only at hSw); obtain ⟨⟨d0, d1, d2, d3⟩, hB⟩ := hSw; go_simp; (try with_reducible rfl))
        rotate_left
        · simp only [Act.put, List.setIfInBounds_toArray, List.set_cons_zero, List.set_cons_succ]
          rfl
        refine take1_ (i := 22) (v := ?_) (a' := ?_) (some 43) #[true, true, true, true, true, true, true, true, true, true, true, true, true, true, true, true, true, true, true, true, true, true, true, false, false, false] rfl rfl (by kernel_rfl) (fun _ _ _ h => h) (Or.inl ⟨by rfl, ?_⟩) hHeld ?_ ?_
        rotate_left
        · (intro w hSw; (try dsimp only at hSw); obtain ⟨⟨d0, d1, d2, d3⟩, hB⟩ := hSw; go_simp; (try with_reducible rfl))
        rotate_left
        · simp only [Act.put, List.setIfInBounds_toArray, List.set_cons_zero, List.set_cons_succ]
          rfl
        refine loud1_ (i := 23) (some 44) #[true, true, true, true, true, true, true, true, true, true, true, true, true, true, true, true, true, true, true, true, true, true, true, true, false, false] rfl rfl (by kernel_rfl) (fun K hK => ?_)
        go_simp
        (have hnx : Below w4.heap.size w4 (wr.drew.alloc (.cells #[.int .u32 (q0 : Int), .int .u32 (q1 : Int), .int .i64 (q2 : Int), .int .i64 (q3 : Int)] 90 (0, 0))) := hHeld.2.alloc hHeld.2.size _)
        refine hK.out _ _ (by exact ⟨HKP.out _ hnx, hnx⟩) (fun hHeld' => ?_)
        clear hK K hHeld
        have hHeld := hHeld'
        clear hHeld'
        try simp only [Act.put, List.setIfInBounds_toArray, List.set_cons_zero, List.set_cons_succ]
        refine loud1_ (i := 24) (some 45) #[true, true, true, true, true, true, true, true, true, true, true, true, true, true, true, true, true, true, true, true, true, true, true, true, true, false] rfl rfl (by kernel_rfl) (fun K hK => ?_)
        (refine step_append_rd (by rfl) (.tmp 21) (.tmp 44) 87 (by rfl) w4.heap.size 90 (.agg #[.int .u32 0, .int .u32 0, .int .i64 0, .int .i64 0]) 4 24 Try.underlying87 infoRRecord3 rfl (by decide) _ _ _ (by rfl) ((show wr.drew.ownsRow w4.heap.size 90 4 (.slice so k co) k (rowsOf Rcd.cells (records b 0 k)) from HOk.out).alloc _) _ 1 [.int .u32 (q0 : Int), .int .u32 (q1 : Int), .int .i64 (q2 : Int), .int .i64 (q3 : Int)] (by rfl) (rd_row (heap_alloc_last wr.drew (.cells (([.int .u32 (q0 : Int), .int .u32 (q1 : Int), .int .i64 (q2 : Int), .int .i64 (q3 : Int)] : List Value)).toArray 90 (0, 0))) rfl 1) (by intro u hu; simp only [List.mem_cons, List.not_mem_nil, or_false] at hu; rcases hu with rfl | rfl | rfl | rfl <;> rfl) (by omega) (by decide) hHeld.2.size ?_; intro v5 w5 hown5 hbel5 hg5; have HO5 := Lib.hid hown5; have hnx := hHeld.2.trans hbel5; clear hown5 hbel5 hg5)
        refine hK.out _ _ (by exact ⟨HKP.out _ hnx, hnx⟩) (fun hHeld' => ?_)
        clear hK K hHeld
        have hHeld := hHeld'
        clear hHeld'
        try simp only [Act.put, List.setIfInBounds_toArray, List.set_cons_zero, List.set_cons_succ]
        refine take1_ (i := 25) (v := ?_) (a' := ?_) (some 6) #[true, true, true, true, true, true, true, true, true, true, true, true, true, true, true, true, true, true, true, true, true, true, true, true, true, true] rfl rfl (by kernel_rfl) (fun _ _ _ h => h) (Or.inl ⟨by rfl, ?_⟩) hHeld ?_ ?_
        rotate_left
        · (intro w hSw; (try dsimp only at hSw); obtain ⟨⟨d0, d1, d2, d3⟩, hB⟩ := hSw; go_simp; (try with_reducible rfl))
        rotate_left
        · simp only [Act.put, List.setIfInBounds_toArray, List.set_cons_zero, List.set_cons_succ]
          rfl
        refine wpAnyH_done (by kernel_rfl) ?_ _
        have HB5 := Lib.hid hHeld.2
        have dd := (HKP.out _ HB5.out).2.2.2
        have HO6 : Hid (w5.ownsRow w4.heap.size 90 4 v5 (k + 1) (rowsOf Rcd.cells (records b 0 (k + 1)))) := Lib.hid (by
          rw [records_snoc, rowsOf_snoc, HROW.out]
          exact HO5.out)
        have hal2 : (records b 0 (k + 1)).all recordMay = (al && decide ((q3 : Int) ≤ 2)) := by
          rw [records_snoc, List.all_append, HAL.out, List.all_cons, List.all_nil, Bool.and_true, HMQ.out]
        have HAL2 := Lib.hid hal2
        clear hHeld hnx HO5 wa1 wt1 wa2 wt2 wa3 wt3 wp1 wb1 wp2 wb2 wc0 wc1 HD hal2
        have HIX := Lib.hid (show (k + 1) * 4 = a + 4 by rw [Nat.succ_mul, HA.out])
        cases al
        all_goals
          go_wp2
          go_roundw
          case rel => exact ⟨k + 1, by omega, by rw [HIX.out]; go_num, by rw [HAL2.out]; rfl, HO6, HB5⟩
          case measure => simp [intOf]; omega
      · obtain rfl : k = J := by omega
        have haN : a = N := by rw [← HA.out, HN.out]
        have HAN := Lib.hid haN
        have HBF := Lib.hid (HB4.out.trans (HBk.out.mono HB4.out.size))
        have hnl : ¬ ((a : Int) + 3 < (N : Int)) := by omega
        cases al with
        | false =>
          have hno : recordRdOk l = false := by rw [HOKD.out]; unfold recordsMay; rw [HAL.out]; rfl
          have HNO := Lib.hid hno
          clear hno haN ha hal hlt
          go_wp2
          go_ret2
          exact rrRcd_no HNO.out rfl HBF.out
        | true =>
          by_cases hmost : k ≤ 13
          · have hyes : recordRdOk l = true := by rw [HOKD.out]; unfold recordsMay; rw [HAL.out, records_len, decide_eq_true hmost]; rfl
            have HYES := Lib.hid hyes
            have hmI : ¬ ((13 : Int) < (k : Int)) := by omega
            clear hyes haN ha hal hlt
            go_wp2
            go_ret2
            exact rrRcd_yes HYES.out (by rw [HBE.out, HJE.out]) rfl (by rw [records_len]; exact own_low HOk.out HB4.out.size) HBF.out
          · have hno : recordRdOk l = false := by rw [HOKD.out]; unfold recordsMay; rw [records_len, decide_eq_false hmost, Bool.and_false]; rfl
            have HNO := Lib.hid hno
            have hmI : (13 : Int) < (k : Int) := by omega
            clear hno haN ha hal hlt
            go_wp2
            go_ret2
            exact rrRcd_no HNO.out rfl HBF.out
end Go.Proofs.Ytlcbfpcabalgcaa
