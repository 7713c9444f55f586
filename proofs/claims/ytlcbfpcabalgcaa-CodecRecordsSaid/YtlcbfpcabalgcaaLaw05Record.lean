/-
  CodecRecords: the walk.
-/
import Derived.Test.YtlcbfpcabalgcaaCodSRecord
import Derived.Test.YtlcbfpcabalgcaaCodQ
namespace Go.Proofs.Ytlcbfpcabalgcaa
open Go.RowKit
set_option linter.unusedVariables false
set_option linter.unusedSimpArgs false
set_option linter.unnecessarySimpa false
theorem heq_secL (l : List UInt8) (h : l.length = 128) (W : World) : (Op.equalIn 10000 29 (.agg (bvs l).toArray) (.agg (bvs l).toArray)).run Try.prog W = .ok true W := by
  have q := equal_sector W l l h h
  rw [decide_eq_true (show l = l from rfl)] at q
  exact q
def okEL (b : Bool) : Int := if b then 0 else 1
theorem wrE_okEL (k : UInt8) (ok : Bool) (L : List UInt8) : wrE k ok L = okEL (ok && mayB k L) := by
  unfold wrE okEL
  rw [makeE_ok]
  cases ok <;> cases mayB k L <;> rfl
theorem own_readL {α : Type} {w : World} {f : α → List Value} {k base T c : Nat} {s : Option Addr} {L : List α} {n : Nat} (hk : ∀ x, (f x).length = k) (h : w.ownsRow base T k (.slice s n c) n (rowsOf f L)) (hn : n = L.length) : ReadAt w s f k L ∧ ∀ a, s = some a → a.block < w.heap.size := by
  obtain ⟨A9, c9, e9, -, -, -, h9, h10⟩ := own_rows (F := fun _ => False) hk h hn (fun _ _ => id)
  injection e9 with e9
  subst e9
  exact ⟨h9, fun a ha => (h10 a ha).1⟩
theorem recordRdL_len (l : List UInt8) : (recordRdL l).length ≤ 255 := by
  unfold recordRdL
  split
  · rw [records_len]
    have h1 := openL_le l
    have h2 := Nat.div_le_self (openL l).length 9
    omega
  · simp
set_option maxRecDepth 100000 in
set_option maxHeartbeats 32000000 in
theorem codecRecords_walk (L : List Rcd) (A : Option Addr) (c : Nat) (hLc : L.length ≤ c) (hcm : c ≤ maxLen) (v : Value) (b : List UInt8) (w : World) (hR : ReadAt w A Rcd.cells 4 L) (hok : ∀ x ∈ L, x.Ok) (hn : b.length ≤ 140737488355328) (hv : Byt w v b) :
    Calls Try.prog 8 #[.slice A L.length c, v] w fun e w' => e = .returned (.bool true) ∧ Below w.heap.size w w' := by
  obtain ⟨sv, cv, rfl, _⟩ := hv.form
  have HA := fun W => Lib.hid (awake05 W)
  have HV := Lib.hid hv
  have HR := Lib.hid hR
  have HOK := Lib.hid hok
  unfold maxLen at hcm
  clear hv hR hok
  go_enter Try.func8, Try.ntmps8
  go_upto_if 20 with (go_at_call 10; refine (HA _).out.mono ?_; rintro e w2 ⟨rfl, hb2⟩; have HB2 := Lib.hid hb2; clear hb2)
  go_cut [0] (fun v wc => ∃ M : List Rcd, v = .slice A M.length c ∧ M.length ≤ 20 ∧ Hid (ReadAt w2 A Rcd.cells 4 M) ∧ Hid (∀ x ∈ M, x.Ok) ∧ w2 = wc)
  case first =>
    by_cases hlen : 20 < L.length
    · have hlI : (20 : Int) < (L.length : Int) := by omega
      have h14c : (20 : Int) ≤ (c : Int) := by omega
      have htl : (L.take 20).length = 20 := by rw [List.length_take]; omega
      have HTL := Lib.hid htl
      clear htl hlen
      go_wp2
      go_meet
      case rel =>
        refine ⟨L.take 20, by rw [HTL.out], by rw [HTL.out]; exact Nat.le_refl _, Lib.hid ?_, Lib.hid (fun x hx => HOK.out x (List.mem_of_mem_take hx)), rfl⟩
        have hq := HR.out.below Rcd.cells_len HB2.out
        intro hne
        obtain ⟨bb, oo, e1, e2⟩ := hq (fun e => hne (by rw [e]; rfl))
        refine ⟨bb, oo, e1, fun i x hx j hj => e2 i x ?_ j hj⟩
        have hi : i < (L.take 20).length := (List.getElem?_eq_some_iff.1 hx).1
        rw [List.getElem?_take_of_lt (by rw [HTL.out] at hi; exact hi)] at hx
        exact hx
    · have hlI : ¬ ((20 : Int) < (L.length : Int)) := by omega
      go_wp2
      go_meet
      case rel => exact ⟨L, rfl, by omega, Lib.hid (HR.out.below Rcd.cells_len HB2.out), HOK, rfl⟩
  case rest =>
  obtain ⟨M, rfl, hM, HRM, HOM, rfl⟩ := hcut
  clear HR HOK HA hLc
  have HV2 := Lib.hid (HV.out.below HB2.out)
  clear HV
  go_wp2
  go_loopw [5, 25] (fun vo i wr => ∃ k : Nat, k ≤ M.length ∧ i = .int .i64 (k : Int) ∧ Hid (wr.ownsRow w2.heap.size 91 4 vo k (rowsOf Rcd.cells (M.take k))) ∧ Hid (Below w2.heap.size w2 wr)) (fun _ i _ => (M.length - intOf i).toNat)
  case atStart => exact ⟨0, by omega, rfl, Lib.hid (own_nilk _ _ _ _), Lib.hid (Below.refl _ _)⟩
  case round =>
    obtain ⟨k, hk, rfl, HO, HB⟩ := hrel
    obtain ⟨so, co, rfl⟩ := own_slice1 HO.out
    by_cases hlt : k < M.length
    · obtain ⟨x, hx⟩ : ∃ x, M[k]? = some x := ⟨_, List.getElem?_eq_getElem hlt⟩
      obtain ⟨b', o, rfl, hr⟩ := rows_at Rcd.cells_len HRM.out hx
      have hbl : b' < w2.heap.size := World.block_lt_of_cell? w2 ⟨b', o + k * 4 + 0, none⟩ (hr 0 _ rfl)
      have hr2 : wr.rangeAt b' (o + k * 4) x.cells := fun j u hu => (HB.out.cell (p := ⟨b', o + k * 4 + j, none⟩) hbl).trans (hr j u hu)
      have HX := Lib.hid hx
      obtain ⟨y0, y1, y2, y3⟩ := x
      have e0 : wr.cell? ⟨b', o + k * 4, none⟩ = some (.int .u32 (y0 : Int)) := hr2 0 _ rfl
      have e1 : wr.cell? ⟨b', o + k * 4 + 1, none⟩ = some (.int .u32 (y1 : Int)) := hr2 1 _ rfl
      have e2 : wr.cell? ⟨b', o + k * 4 + 2, none⟩ = some (.int .i64 y2) := hr2 2 _ rfl
      have e3 : wr.cell? ⟨b', o + k * 4 + 3, none⟩ = some (.int .i64 y3) := hr2 3 _ rfl
      have hba : Below wr.heap.size wr (wr.alloc (.cells #[.int .u32 (y0 : Int), .int .u32 (y1 : Int), .int .i64 y2, .int .i64 y3] 90 (0, 0))) := (Below.refl _ _).alloc (Nat.le_refl _) _
      have hoa := (HO.out.alloc (.cells #[.int .u32 (y0 : Int), .int .u32 (y1 : Int), .int .i64 y2, .int .i64 y3] 90 (0, 0))).alloc (.cells #[.int .u32 (y0 : Int), .int .u32 (y1 : Int), .int .i64 y2, .int .i64 y3] 91 (0, 0))
      have hbb := (HB.out.trans (hba.mono HB.out.size)).alloc (by have := HB.out.size; simp; omega) (.cells #[.int .u32 (y0 : Int), .int .u32 (y1 : Int), .int .i64 y2, .int .i64 y3] 91 (0, 0))
      have hrd := rd_row (cs := [.int .u32 (y0 : Int), .int .u32 (y1 : Int), .int .i64 y2, .int .i64 y3]) (heap_alloc_last (wr.alloc (.cells #[.int .u32 (y0 : Int), .int .u32 (y1 : Int), .int .i64 y2, .int .i64 y3] 90 (0, 0))) (.cells (([.int .u32 (y0 : Int), .int .u32 (y1 : Int), .int .i64 y2, .int .i64 y3] : List Value)).toArray 91 (0, 0))) rfl 1
      rw [World.size_alloc] at hrd
      have HOA := Lib.hid hoa
      have HBA := Lib.hid hbb
      have HRD := Lib.hid hrd
      clear hr hr2 hx hba hoa hbb hrd
      go_wp2_with (at_builtin; go_must (refine wpList_append_rd _ rfl (.tmp 29) (.tmp 39) 88 rfl w2.heap.size 91 (.agg #[.int .u32 0, .int .u32 0, .int .i64 0, .int .i64 0]) 4 24 Try.underlying88 infoRecord3 rfl (by decide) _ _ _ rfl HOA.out _ 1 [.int .u32 (y0 : Int), .int .u32 (y1 : Int), .int .i64 y2, .int .i64 y3] rfl HRD.out ?c1 ?c2 (by decide) HBA.out.size ?_; (case c1 => intro u hu; simp only [List.mem_cons, List.not_mem_nil, or_false] at hu; rcases hu with rfl | rfl | rfl | rfl <;> rfl); (case c2 => omega); intro v5 w5 hown5 hbel5 hg5; have HO5 := Lib.hid hown5; have HB5 := Lib.hid (HBA.out.trans hbel5); clear hown5 hbel5 hg5))
      have HO6 : Hid (w5.ownsRow w2.heap.size 91 4 v5 (k + 1) (rowsOf Rcd.cells (M.take (k + 1)))) := Lib.hid (by
        obtain ⟨hk3, e3⟩ := List.getElem?_eq_some_iff.1 HX.out
        rw [List.take_succ_eq_append_getElem hk3, e3, rowsOf_snoc]
        exact HO5.out)
      clear HO5
      go_roundw
      case rel => exact ⟨k + 1, by omega, by go_num, HO6, HB5⟩
      case measure => simp [intOf]; omega
    · obtain rfl : k = M.length := by omega
      have ho := HO.out
      rw [List.take_length] at ho
      obtain ⟨hro, hao⟩ := own_readL Rcd.cells_len ho rfl
      obtain ⟨w3, hw3⟩ : ∃ w3, w3 = wr := ⟨_, rfl⟩
      rw [← hw3] at hro hao HB ⊢
      clear ho HO hw3 hlt
      obtain ⟨Sx, hS⟩ : ∃ S, wrS 7 (recordsMay M && !fBad (recordAll M)) (fB (recordAll M)) = S := ⟨_, rfl⟩
      obtain ⟨ok, hok'⟩ : ∃ ok, ((recordsMay M && !fBad (recordAll M)) && mayB 7 (fB (recordAll M))) = ok := ⟨_, rfl⟩
      have hSl : Sx.length = 128 := by rw [← hS]; exact wrS_length _ _ _
      have HWI : Hid (Calls Try.prog 34 #[.slice so M.length co] w3 fun e w' => e = .returned (.tuple #[.agg (bvs Sx).toArray, .int .i64 (okEL ok)]) ∧ Below w3.heap.size w3 w') := Lib.hid ((writeRecords_any M so co w3 hro hao HOM.out (by omega)).mono fun e w' h => by
        have h1 := h.1
        rw [wrE_okEL, hS, hok'] at h1
        exact ⟨h1, h.2⟩)
      have HRW : ∀ W, Below w2.heap.size w2 W → Hid (Calls Try.prog 35 #[.slice A M.length c] W fun e w' => e = .returned (.tuple #[.agg (bvs Sx).toArray, .bool ok]) ∧ Below W.heap.size W w') := fun W hb => Lib.hid ((rwriteRecords_any M A c W (HRM.out.below Rcd.cells_len hb) HOM.out (by omega)).mono fun e w' h => by
        have h1 := h.1
        rw [hS, hok'] at h1
        exact ⟨h1, h.2⟩)
      have HTU := fun W (hb : Below w2.heap.size w2 W) => Lib.hid (turn_any Sx (.slice sv b.length cv) b W hSl hn (HV2.out.below hb))
      have HES := fun W => Lib.hid (heq_secL Sx hSl W)
      have HSZ : Hid ((bvs Sx).toArray.size = 128) := Lib.hid (by rw [secV_size, hSl])
      have HSL := Lib.hid hSl
      clear hS hok' hSl hro hao
      go_upto_region 12 with (first
        | (go_at_call 34; go_must (refine HWI.out.mono ?_; rintro e w4 ⟨rfl, hb4⟩; have HB4 := Lib.hid (HB.out.trans (hb4.mono HB.out.size)); clear hb4))
        | (refine wpList_store_row rfl 29 (.tmp 8) (.tmp 45) rfl w4.heap.size zArr (bvs Sx).toArray 29 rfl rfl (heap_alloc_last _ _) (by rw [HSZ.out]; exact size_sec) (by rw [HSZ.out, zArr_size]) (sec_one _) ?_))
      rw [World.setRow_alloc_new]
      have hT5 := heap_alloc_last w4 (.cells (bvs Sx).toArray 29 (0, 0))
      have hB5 := HB4.out.alloc HB4.out.size (.cells (bvs Sx).toArray 29 (0, 0))
      clear HB4 HB HWI
      revert hT5 hB5
      generalize w4.alloc (.cells (bvs Sx).toArray 29 (0, 0)) = w5
      generalize w4.heap.size = p5
      intro hT5 hB5
      have HT5 := Lib.hid hT5
      have HB5 := Lib.hid hB5
      have HRW5 := HRW w5 hB5
      clear hT5 hB5 HRW
      go_upto_region 13 with (first
        | (go_at_call 35; go_must (refine HRW5.out.mono ?_; rintro e w6 ⟨rfl, hb6⟩; have HT6 := Lib.hid (old_heap HT5.out hb6); have HB6 := Lib.hid (HB5.out.trans (hb6.mono HB5.out.size)); clear hb6))
        | (refine wpList_store_row rfl 28 (.tmp 10) (.tmp 50) rfl w6.heap.size zArr (bvs Sx).toArray 28 rfl rfl (heap_alloc_last _ _) (by rw [HSZ.out]; exact size_arr) (by rw [HSZ.out, zArr_size]) (sec_one _) ?_))
      rw [World.setRow_alloc_new]
      have hU7 := heap_alloc_last w6 (.cells (bvs Sx).toArray 28 (0, 0))
      have hT7 := old_heap HT6.out ((Below.refl _ _).alloc (Nat.le_refl _) (.cells (bvs Sx).toArray 28 (0, 0)))
      have hB7 := HB6.out.alloc HB6.out.size (.cells (bvs Sx).toArray 28 (0, 0))
      clear HT6 HB6 HT5 HB5 HRW5
      revert hU7 hT7 hB7
      generalize w6.alloc (.cells (bvs Sx).toArray 28 (0, 0)) = w7
      generalize w6.heap.size = p7
      intro hU7 hT7 hB7
      have HU7 := Lib.hid hU7
      have HT7 := Lib.hid hT7
      have HB7 := Lib.hid hB7
      have HTU7 := HTU w7 hB7
      unfold SomeS at HTU7
      clear hU7 hT7 hB7 HTU
      have hes := fun W => (HES W).out
      cases ok
      all_goals
        go_upto_region 16 with (first
          | (refine wpList_load_row rfl 29 (.tmp 8) rfl p5 rfl _ _ _ _ HT7.out Try.underlying29 rfl (by rw [HSZ.out]; exact size_sec) ?_)
          | (refine wpList_load_row rfl 28 (.tmp 10) rfl p7 rfl _ _ _ _ HU7.out Try.underlying28 rfl (by rw [HSZ.out]; exact size_arr) ?_)
          | (go_at_call 15; go_must (refine HTU7.out.mono ?_; rintro e w8 ⟨l2, hl2, rfl, hb8⟩; unfold secV; have HL2 := Lib.hid hl2; have HZ2 : Hid ((bvs l2).toArray.size = 128) := Lib.hid (by rw [secV_size, hl2]); have HT8 := Lib.hid (old_heap HT7.out hb8); have HB8 := Lib.hid (HB7.out.trans (hb8.mono HB7.out.size)); clear hb8 hl2))
          | (refine wpList_store_row rfl 29 (.tmp 12) (.tmp 71) rfl w8.heap.size zArr (bvs l2).toArray 29 rfl rfl (heap_alloc_last _ _) (by rw [HZ2.out]; exact size_sec) (by rw [HZ2.out, zArr_size]) (sec_one _) ?_))
        rw [World.setRow_alloc_new]
        have hX9 := heap_alloc_last w8 (.cells (bvs l2).toArray 29 (0, 0))
        have hT9 := old_heap HT8.out ((Below.refl _ _).alloc (Nat.le_refl _) (.cells (bvs l2).toArray 29 (0, 0)))
        have hB9 := HB8.out.alloc HB8.out.size (.cells (bvs l2).toArray 29 (0, 0))
        have hp9 : w2.heap.size ≤ w8.heap.size := HB8.out.size
        clear HT8 HB8 HT7 HU7 HB7 HTU7 hes
        revert hX9 hT9 hB9 hp9
        generalize w8.alloc (.cells (bvs l2).toArray 29 (0, 0)) = w9
        generalize w8.heap.size = p9
        intro hX9 hT9 hB9 hp9
        have HX9 := Lib.hid hX9
        have HT9 := Lib.hid hT9
        have HB9 := Lib.hid hB9
        clear hX9 hT9 hB9
        go_upto_if 74 with fail
        go_cut [] (fun wc => Hid (∃ l3 : List UInt8, l3.length = 128 ∧ wc.heap[p9]? = some (.cells (bvs l3).toArray 29 (0, 0)) ∧ Below w2.heap.size w2 wc))
        case first =>
          by_cases hb0 : b.length = 0
          · have hbI : ((b.length : Int) == 0) = true := by simp [hb0]
            have hbN : (b.length == 0) = true := by simp [hb0]
            clear hb0
            go_wp2_with (first
              | (refine wpList_load_row rfl 29 (.tmp 8) rfl p5 rfl _ _ _ _ HT9.out Try.underlying29 rfl (by rw [HSZ.out]; exact size_sec) ?_)
              | (refine wpList_store_row rfl 29 (.tmp 12) (.tmp 75) rfl p9 (bvs l2).toArray (bvs Sx).toArray 29 rfl rfl HX9.out (by rw [HSZ.out]; exact size_sec) (by rw [HSZ.out, HZ2.out]) (sec_one _) ?_))
            go_meet
            case rel => exact Lib.hid ⟨Sx, HSL.out, setRow_heap _ _ _ _ _ _ HX9.out, below_row HB9.out hp9⟩
          · have hbI : ((b.length : Int) == 0) = false := by rw [beq_eq_false_iff_ne]; omega
            have hbN : (b.length == 0) = false := by rw [beq_eq_false_iff_ne]; omega
            clear hb0
            go_wp2
            go_meet
            case rel => exact Lib.hid ⟨l2, HL2.out, HX9.out, HB9.out⟩
        case rest =>
        obtain ⟨l3, hl3, hX3, hB3⟩ := hcut.out
        clear hcut HX9 HT9 HB9 HZ2 HL2
        have HZ3 : Hid ((bvs l3).toArray.size = 128) := Lib.hid (by rw [secV_size, hl3])
        have HR1 := fun W => Lib.hid (readRecords_any l3 W hl3)
        have HR2 := fun W => Lib.hid (rreadRecords_any l3 W hl3)
        unfold RlRcd at HR1
        unfold RrRcd at HR2
        unfold secV at HR1 HR2
        obtain ⟨ok2, hok2⟩ : ∃ ok2, recordRdOk l3 = ok2 := ⟨_, rfl⟩
        obtain ⟨N, hN⟩ : ∃ N, recordRdL l3 = N := ⟨_, rfl⟩
        simp only [hok2, hN] at HR1 HR2
        have HNL := Lib.hid (show N.length ≤ 255 by rw [← hN]; exact recordRdL_len l3)
        have HX3 := Lib.hid hX3
        have HB3 := Lib.hid hB3
        clear hl3 hX3 hB3 hok2 hN
        go_upto_region 19 with (first
          | (refine wpList_load_row rfl 29 (.tmp 12) rfl p9 rfl _ _ _ _ HX3.out Try.underlying29 rfl (by rw [HZ3.out]; exact size_sec) ?_)
          | (go_at_call 36; go_must (refine (HR1 _).out.mono ?_; rintro e w10 ⟨v10, rfl, ho10, hb10⟩; obtain ⟨s10, c10, rfl⟩ := own_slice1 ho10; have HO10 := Lib.hid ho10; have HX10 := Lib.hid (old_heap HX3.out hb10); have HB10 := Lib.hid (HB3.out.trans (hb10.mono HB3.out.size)); clear ho10 hb10)))
        go_upto_region 20 with (first
          | (refine wpList_load_row rfl 29 (.tmp 12) rfl p9 rfl _ _ _ _ HX10.out Try.underlying29 rfl (by rw [HZ3.out]; exact size_sec) ?_)
          | (go_at_call 37; go_must (refine (HR2 _).out.mono ?_; rintro e w11 ⟨v11, rfl, ho11, hb11⟩; obtain ⟨s11, c11, rfl⟩ := own_slice1 ho11; have HO10' := Lib.hid (own_below HO10.out hb11); have HO11 := Lib.hid ho11; have HB11 := Lib.hid (HB10.out.trans (hb11.mono HB10.out.size)); clear ho11 hb11)))
        have hr10 := (own_readL Rcd.cells_len HO10'.out rfl).1
        have hr11 := (own_readL Rcd.cells_len HO11.out rfl).1
        have HR10 := Lib.hid hr10
        have HR11 := Lib.hid hr11
        have HBW := Lib.hid (HB2.out.trans (HB11.out.mono HB2.out.size))
        clear hr10 hr11 HO10 HO10' HO11 HX10 HX3 HB10 HB3 HR1 HR2 HB11
        have hN1 : N.length ≤ 9223372036854775807 := by have := HNL.out; omega
        cases ok2
        all_goals
          go_wp2
          go_loopw [107] (fun i wr => ∃ k : Nat, k ≤ N.length ∧ i = .int .i64 (k : Int) ∧ Hid (Below w11.heap.size w11 wr)) (fun i _ => (N.length - intOf i).toNat)
          case atStart => exact ⟨0, by omega, rfl, Lib.hid (Below.refl _ _)⟩
          case round =>
            obtain ⟨k, hk, rfl, HBk⟩ := hrel
            by_cases hlt : k < N.length
            · obtain ⟨x, hx⟩ : ∃ x, N[k]? = some x := ⟨_, List.getElem?_eq_getElem hlt⟩
              obtain ⟨b1, o1, rfl, hr1⟩ := rows_at Rcd.cells_len HR10.out hx
              obtain ⟨b2, o2, rfl, hr2⟩ := rows_at Rcd.cells_len HR11.out hx
              have hl1 : b1 < w11.heap.size := World.block_lt_of_cell? w11 ⟨b1, o1 + k * 4 + 0, none⟩ (hr1 0 _ rfl)
              have hl2' : b2 < w11.heap.size := World.block_lt_of_cell? w11 ⟨b2, o2 + k * 4 + 0, none⟩ (hr2 0 _ rfl)
              obtain ⟨y0, y1, y2, y3⟩ := x
              have d0 : wr.cell? ⟨b1, o1 + k * 4, none⟩ = some (.int .u32 (y0 : Int)) := (HBk.out.cell (p := ⟨b1, o1 + k * 4 + 0, none⟩) hl1).trans (hr1 0 _ rfl)
              have d1 : wr.cell? ⟨b1, o1 + k * 4 + 1, none⟩ = some (.int .u32 (y1 : Int)) := (HBk.out.cell (p := ⟨b1, o1 + k * 4 + 1, none⟩) hl1).trans (hr1 1 _ rfl)
              have d2 : wr.cell? ⟨b1, o1 + k * 4 + 2, none⟩ = some (.int .i64 y2) := (HBk.out.cell (p := ⟨b1, o1 + k * 4 + 2, none⟩) hl1).trans (hr1 2 _ rfl)
              have d3 : wr.cell? ⟨b1, o1 + k * 4 + 3, none⟩ = some (.int .i64 y3) := (HBk.out.cell (p := ⟨b1, o1 + k * 4 + 3, none⟩) hl1).trans (hr1 3 _ rfl)
              have e0 : wr.cell? ⟨b2, o2 + k * 4, none⟩ = some (.int .u32 (y0 : Int)) := (HBk.out.cell (p := ⟨b2, o2 + k * 4 + 0, none⟩) hl2').trans (hr2 0 _ rfl)
              have e1 : wr.cell? ⟨b2, o2 + k * 4 + 1, none⟩ = some (.int .u32 (y1 : Int)) := (HBk.out.cell (p := ⟨b2, o2 + k * 4 + 1, none⟩) hl2').trans (hr2 1 _ rfl)
              have e2 : wr.cell? ⟨b2, o2 + k * 4 + 2, none⟩ = some (.int .i64 y2) := (HBk.out.cell (p := ⟨b2, o2 + k * 4 + 2, none⟩) hl2').trans (hr2 2 _ rfl)
              have e3 : wr.cell? ⟨b2, o2 + k * 4 + 3, none⟩ = some (.int .i64 y3) := (HBk.out.cell (p := ⟨b2, o2 + k * 4 + 3, none⟩) hl2').trans (hr2 3 _ rfl)
              clear hx hr1 hr2
              go_upto_region 25 with fail
              go_quiet (fail)
              rename_i nq
              have HBn : Hid (Below w11.heap.size w11 (wr.drewN nq)) := Lib.hid (bdrewN HBk.out nq)
              clear d0 e0 d1 e1 d2 e2 d3 e3
              go_wp2
              go_roundw
              case rel => exact ⟨k + 1, by omega, by go_num, HBn⟩
              case measure => simp [intOf]; omega
            · have hkn : ¬ ((k : Int) < (N.length : Int)) := by omega
              go_wp2
              go_ret
              exact ⟨rfl, HBW.out.trans (HBk.out.mono HBW.out.size)⟩
end Go.Proofs.Ytlcbfpcabalgcaa
