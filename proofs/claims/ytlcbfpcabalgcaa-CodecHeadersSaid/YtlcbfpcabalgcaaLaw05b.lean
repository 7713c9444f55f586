/-
  CodecHeaders: the walk.
-/
import Derived.Test.YtlcbfpcabalgcaaCodHg
import Derived.Test.YtlcbfpcabalgcaaCodQ
namespace Go.Proofs.Ytlcbfpcabalgcaa
open Go.RowKit
set_option linter.unusedVariables false
set_option linter.unusedSimpArgs false
set_option linter.unnecessarySimpa false
theorem heq_secH (l : List UInt8) (h : l.length = 128) (W : World) : (Op.equalIn 10000 29 (.agg (bvs l).toArray) (.agg (bvs l).toArray)).run Try.prog W = .ok true W := by
  have q := equal_sector W l l h h
  rw [decide_eq_true (show l = l from rfl)] at q
  exact q
def okEH (b : Bool) : Int := if b then 0 else 1
theorem wrE_okEH (k : UInt8) (ok : Bool) (L : List UInt8) : wrE k ok L = okEH (ok && mayB k L) := by
  unfold wrE okEH
  rw [makeE_ok]
  cases ok <;> cases mayB k L <;> rfl
theorem eq_hdr (w : World) (serial seq : Nat) (seg grp next : Int) (time : Nat) : (Op.equalIn 10000 46 (.agg #[.int .u64 (serial : Int), .int .u64 (seq : Int), .int .i64 seg, .int .i64 grp, .int .i64 next, .int .u32 (time : Int)]) (.agg #[.int .u64 (serial : Int), .int .u64 (seq : Int), .int .i64 seg, .int .i64 grp, .int .i64 next, .int .u32 (time : Int)])).run Try.prog w = .ok true w := by
  have hu := Try.underlying46
  have hf : Try.prog.underlying 46 = some (.struct (Try.prog.fieldsOf 46)) := by unfold Program.fieldsOf; rw [hu]
  rw [run_equalIn_struct w 9999 _ _ _ hf (by kernel_rfl)]
  unfold Program.fieldsOf
  rw [hu]
  simp only [Op.eqFields]
  go_simp
theorem hdr_len (x : Hdr) : (fB (hdrL x)).length = 26 := by rw [fB_len]; rfl
theorem hdr_back (x : Hdr) (h : fBad (hdrL x) = false) : rhdr (fB (hdrL x)) = x := by
  obtain ⟨serial, seq, seg, grp, next, time⟩ := x
  have q := fun (i a k : Nat) (x : Int) => rN_at h i a k x
  have e0 := q 0 0 8 (serial : Int) rfl rfl
  have e1 := q 1 8 8 (seq : Int) rfl rfl
  have e2 := q 2 16 2 seg rfl rfl
  have e3 := q 3 18 2 grp rfl rfl
  have e4 := q 4 20 2 next rfl rfl
  have e5 := q 5 22 4 (time : Int) rfl rfl
  unfold rhdr
  rw [e2, e3, e4]
  congr 1 <;> omega
theorem hdr_read (x : Hdr) (h : fBad (hdrL x) = false) : rhdrOk (wrS 6 true (fB (hdrL x))) = true ∧ rhdrV (wrS 6 true (fB (hdrL x))) = x := by
  have hlen := hdr_len x
  have hmay : mayB 6 (fB (hdrL x)) = true := (mayB_iff _ _).2 ⟨by decide, by omega⟩
  obtain ⟨h1, h2, h3⟩ := open_makeS 6 _ hmay
  have hok : rhdrOk (wrS 6 true (fB (hdrL x))) = true := by
    unfold rhdrOk wrS
    rw [if_pos rfl, h1, h2, h3, hlen]; rfl
  refine ⟨hok, ?_⟩
  unfold rhdrV
  rw [hok, if_pos rfl]
  unfold wrS
  rw [if_pos rfl, h3, hdr_back x h]
set_option maxRecDepth 10000 in
set_option maxHeartbeats 32000000 in
theorem codecHeaders_walk (x : Hdr) (hx : x.Ok) (v : Value) (b : List UInt8) (w : World) (hn : b.length ≤ 140737488355328) (hv : Byt w v b) :
    Calls Try.prog 4 #[.agg x.cells.toArray, v] w fun e w' => e = .returned (.bool true) ∧ Below w.heap.size w w' := by
  obtain ⟨sv, cv, rfl, _⟩ := hv.form
  have hA := fun W => awake05 W
  have HA := fun W => Lib.hid (hA W)
  obtain ⟨S, hS⟩ : ∃ S, wrS 6 (!fBad (hdrL x)) (fB (hdrL x)) = S := ⟨_, rfl⟩
  obtain ⟨ok, hok⟩ : ∃ ok, (!fBad (hdrL x) && mayB 6 (fB (hdrL x))) = ok := ⟨_, rfl⟩
  have hSl : S.length = 128 := by rw [← hS]; exact wrS_length _ _ _
  have HWI : ∀ W, Hid (Calls Try.prog 17 #[.agg x.cells.toArray] W fun e w' => e = .returned (.tuple #[.agg (bvs S).toArray, .int .i64 (okEH ok)]) ∧ Below W.heap.size W w') := fun W => Lib.hid ((writeHeader_any x W hx).mono fun e w' h => by
    have h1 := h.1
    rw [Bool.true_and, wrE_okEH, hS, hok] at h1
    exact ⟨h1, h.2⟩)
  have HRW : ∀ W, Hid (Calls Try.prog 18 #[.agg x.cells.toArray] W fun e w' => e = .returned (.tuple #[.agg (bvs S).toArray, .bool ok]) ∧ Below W.heap.size W w') := fun W => Lib.hid ((rwriteHeader_any x W hx).mono fun e w' h => by
    have h1 := h.1
    rw [hS, hok] at h1
    exact ⟨h1, h.2⟩)
  have hback : ok = true → rhdrOk S = true ∧ rhdrV S = x := fun h => by
    rw [← hok, Bool.and_eq_true] at h
    have h3 : fBad (hdrL x) = false := by simpa using h.1
    have h4 := hdr_read x h3
    rw [← hS, h3]
    exact h4
  have HBK := Lib.hid hback
  have HRI : ∀ (l : List UInt8) (hl : l.length = 128) W, Hid (Calls Try.prog 19 #[.agg (bvs l).toArray] W fun e w' => e = .returned (.tuple #[.agg (rhdrV l).cells.toArray, .int .i64 (rhdrE l)]) ∧ Below W.heap.size W w') := fun l hl W => Lib.hid (readHeader_any l W hl)
  have HRR : ∀ (l : List UInt8) (hl : l.length = 128) W, Hid (Calls Try.prog 20 #[.agg (bvs l).toArray] W fun e w' => e = .returned (.tuple #[.agg (rhdrV l).cells.toArray, .bool (rhdrOk l)]) ∧ Below W.heap.size W w') := fun l hl W => Lib.hid (rreadHeader_any l W hl)
  have HTU := fun W (hb : Below w.heap.size w W) => Lib.hid (turn_any S (.slice sv b.length cv) b W hSl hn (hv.below hb))
  have HES := fun W => Lib.hid (heq_secH S hSl W)
  have hSZ : (bvs S).toArray.size = 128 := by rw [secV_size, hSl]
  have HSZ := Lib.hid hSZ
  have HSL := Lib.hid hSl
  obtain ⟨serial, seq, seg, grp, next, time⟩ := x
  have hc : (Hdr.mk serial seq seg grp next time).cells.toArray = #[.int .u64 (serial : Int), .int .u64 (seq : Int), .int .i64 seg, .int .i64 grp, .int .i64 next, .int .u32 (time : Int)] := rfl
  simp only [hc] at HWI HRW ⊢
  have HEQ := fun W => Lib.hid (eq_hdr W serial seq seg grp next time)
  clear hA hS hok hSl hback hv hSZ hx hc
  have hG1 := heap_alloc_last w (.cells #[.int .u64 (serial : Int), .int .u64 (seq : Int), .int .i64 seg, .int .i64 grp, .int .i64 next, .int .u32 (time : Int)] 45 (0, 0))
  have hb1 : Below w.heap.size w (w.alloc (.cells #[.int .u64 (serial : Int), .int .u64 (seq : Int), .int .i64 seg, .int .i64 grp, .int .i64 next, .int .u32 (time : Int)] 45 (0, 0))) := (Below.refl _ _).alloc (Nat.le_refl _) _
  have HG1 := Lib.hid hG1
  have HB1 := Lib.hid hb1
  clear hG1 hb1
  go_enter Try.func4, Try.ntmps4
  go_upto_region 1 with fail
  revert HG1 HB1
  generalize w.alloc (.cells #[.int .u64 (serial : Int), .int .u64 (seq : Int), .int .i64 seg, .int .i64 grp, .int .i64 next, .int .u32 (time : Int)] 45 (0, 0)) = w1
  intro HG1 HB1
  go_upto_region 3 with (go_at_call 10; refine (HA _).out.mono ?_; rintro e w2 ⟨rfl, hb2⟩; have HG2 := Lib.hid (old_heap HG1.out hb2); have HB2 := Lib.hid (bnext HB1.out hb2); clear hb2)
  have c0 : w2.cell? ⟨w.heap.size, 0, none⟩ = some (.int .u64 (serial : Int)) := cell_row HG2.out 0
  have c1 : w2.cell? ⟨w.heap.size, 1, none⟩ = some (.int .u64 (seq : Int)) := cell_row HG2.out 1
  have c2 : w2.cell? ⟨w.heap.size, 2, none⟩ = some (.int .i64 seg) := cell_row HG2.out 2
  have c3 : w2.cell? ⟨w.heap.size, 3, none⟩ = some (.int .i64 grp) := cell_row HG2.out 3
  have c4 : w2.cell? ⟨w.heap.size, 4, none⟩ = some (.int .i64 next) := cell_row HG2.out 4
  have c5 : w2.cell? ⟨w.heap.size, 5, none⟩ = some (.int .u32 (time : Int)) := cell_row HG2.out 5
  go_upto_region 4 with fail
  have hO3 := heap_alloc_last w2 (.cells #[.int .u64 (serial : Int), .int .u64 (seq : Int), .int .i64 seg, .int .i64 grp, .int .i64 next, .int .u32 (time : Int)] 46 (0, 0))
  have hb3 : Below w2.heap.size w2 (w2.alloc (.cells #[.int .u64 (serial : Int), .int .u64 (seq : Int), .int .i64 seg, .int .i64 grp, .int .i64 next, .int .u32 (time : Int)] 46 (0, 0))) := (Below.refl _ _).alloc (Nat.le_refl _) _
  have hG3 := old_heap HG2.out hb3
  have hB3 := bnext HB2.out hb3
  clear c0 c1 c2 c3 c4 c5 hb3 HG2 HB2 HG1 HB1
  revert hO3 hG3 hB3
  generalize w2.alloc (.cells #[.int .u64 (serial : Int), .int .u64 (seq : Int), .int .i64 seg, .int .i64 grp, .int .i64 next, .int .u32 (time : Int)] 46 (0, 0)) = w3
  generalize w2.heap.size = p3
  intro hO3 hG3 hB3
  have HO3 := Lib.hid hO3
  have HG3 := Lib.hid hG3
  have HB3 := Lib.hid hB3
  clear hO3 hG3 hB3
  go_upto_region 5 with (first
    | (refine wpList_load_row rfl 46 (.tmp 5) rfl p3 rfl _ _ _ _ HO3.out Try.underlying46 rfl infoHeader ?_)
    | (go_at_call 17; refine (HWI _).out.mono ?_; rintro e w4 ⟨rfl, hb4⟩; have HG4 := Lib.hid (old_heap HG3.out hb4); have HO4 := Lib.hid (old_heap HO3.out hb4); have HB4 := Lib.hid (bnext HB3.out hb4); clear hb4)
    | (refine wpList_store_row rfl 29 (.tmp 6) (.tmp 33) rfl w4.heap.size zArr (bvs S).toArray 29 rfl rfl (heap_alloc_last _ _) (by rw [HSZ.out]; exact size_sec) (by rw [HSZ.out, zArr_size]) (sec_one _) ?_))
  rw [World.setRow_alloc_new]
  have hT5 := heap_alloc_last w4 (.cells (bvs S).toArray 29 (0, 0))
  have hb5 : Below w4.heap.size w4 (w4.alloc (.cells (bvs S).toArray 29 (0, 0))) := (Below.refl _ _).alloc (Nat.le_refl _) _
  have hG5 := old_heap HG4.out hb5
  have hO5 := old_heap HO4.out hb5
  have hB5 := bnext HB4.out hb5
  clear hb5 HG4 HO4 HB4 HG3 HO3 HB3
  revert hT5 hG5 hO5 hB5
  generalize w4.alloc (.cells (bvs S).toArray 29 (0, 0)) = w5
  generalize w4.heap.size = p5
  intro hT5 hG5 hO5 hB5
  have HT5 := Lib.hid hT5
  have HG5 := Lib.hid hG5
  have HO5 := Lib.hid hO5
  have HB5 := Lib.hid hB5
  clear hT5 hG5 hO5 hB5
  go_upto_region 6 with (first
    | (refine wpList_load_row rfl 45 (.tmp 2) rfl w.heap.size rfl _ _ _ _ HG5.out Try.underlying45 rfl infoRHeader ?_)
    | (go_at_call 18; refine (HRW _).out.mono ?_; rintro e w6 ⟨rfl, hb6⟩; have HO6 := Lib.hid (old_heap HO5.out hb6); have HT6 := Lib.hid (old_heap HT5.out hb6); have HB6 := Lib.hid (bnext HB5.out hb6); clear hb6)
    | (refine wpList_store_row rfl 28 (.tmp 8) (.tmp 38) rfl w6.heap.size zArr (bvs S).toArray 28 rfl rfl (heap_alloc_last _ _) (by rw [HSZ.out]; exact size_arr) (by rw [HSZ.out, zArr_size]) (sec_one _) ?_))
  rw [World.setRow_alloc_new]
  have hU7 := heap_alloc_last w6 (.cells (bvs S).toArray 28 (0, 0))
  have hb7 : Below w6.heap.size w6 (w6.alloc (.cells (bvs S).toArray 28 (0, 0))) := (Below.refl _ _).alloc (Nat.le_refl _) _
  have hO7 := old_heap HO6.out hb7
  have hT7 := old_heap HT6.out hb7
  have hB7 := bnext HB6.out hb7
  clear hb7 HO6 HT6 HB6 HG5 HT5 HO5 HB5
  revert hU7 hO7 hT7 hB7
  generalize w6.alloc (.cells (bvs S).toArray 28 (0, 0)) = w7
  generalize w6.heap.size = p7
  intro hU7 hO7 hT7 hB7
  have HU7 := Lib.hid hU7
  have HO7 := Lib.hid hO7
  have HT7 := Lib.hid hT7
  have HB7 := Lib.hid hB7
  clear hU7 hO7 hT7 hB7
  have hes := fun W => (HES W).out
  cases ok with
  | true =>
    obtain ⟨hk1, hk2⟩ := HBK.out rfl
    have he0 : okEH true = 0 := rfl
    rw [he0]
    have HRI1 : ∀ W, Hid (Calls Try.prog 19 #[.agg (bvs S).toArray] W fun e w' => e = .returned (.tuple #[.agg #[.int .u64 (serial : Int), .int .u64 (seq : Int), .int .i64 seg, .int .i64 grp, .int .i64 next, .int .u32 (time : Int)], .int .i64 0]) ∧ Below W.heap.size W w') := fun W => Lib.hid ((HRI S HSL.out W).out.mono fun e w' h => by
      have h1 := h.1
      rw [rhdrE, hk1, hk2, if_pos rfl] at h1
      exact ⟨h1, h.2⟩)
    clear hk1 hk2 he0
    go_upto_region 9 with (first
      | (refine wpList_load_row rfl 29 (.tmp 6) rfl p5 rfl _ _ _ _ HT7.out Try.underlying29 rfl (by rw [HSZ.out]; exact size_sec) ?_)
      | (refine wpList_load_row rfl 28 (.tmp 8) rfl p7 rfl _ _ _ _ HU7.out Try.underlying28 rfl (by rw [HSZ.out]; exact size_arr) ?_)
      | (go_at_call 19; go_must (refine (HRI1 _).out.mono ?_; rintro e w8 ⟨rfl, hb8⟩; have HO8 := Lib.hid (old_heap HO7.out hb8); have HT8 := Lib.hid (old_heap HT7.out hb8); have HB8 := Lib.hid (bnext HB7.out hb8); clear hb8)))
    have hE9 := heap_alloc_last w8 (.cells #[.int .u64 (serial : Int), .int .u64 (seq : Int), .int .i64 seg, .int .i64 grp, .int .i64 next, .int .u32 (time : Int)] 46 (0, 0))
    have hb9 : Below w8.heap.size w8 (w8.alloc (.cells #[.int .u64 (serial : Int), .int .u64 (seq : Int), .int .i64 seg, .int .i64 grp, .int .i64 next, .int .u32 (time : Int)] 46 (0, 0))) := (Below.refl _ _).alloc (Nat.le_refl _) _
    have hO9 := old_heap HO8.out hb9
    have hT9 := old_heap HT8.out hb9
    have hB9 := bnext HB8.out hb9
    clear hb9 HO8 HT8 HB8 HO7 HT7 HU7 HB7 HRI1
    revert hE9 hO9 hT9 hB9
    generalize w8.alloc (.cells #[.int .u64 (serial : Int), .int .u64 (seq : Int), .int .i64 seg, .int .i64 grp, .int .i64 next, .int .u32 (time : Int)] 46 (0, 0)) = w9
    generalize w8.heap.size = p8
    intro hE9 hO9 hT9 hB9
    have HE9 := Lib.hid hE9
    have HO9 := Lib.hid hO9
    have HT9 := Lib.hid hT9
    have HB9 := Lib.hid hB9
    clear hE9 hO9 hT9 hB9
    have heq := fun W => (HEQ W).out
    go_upto_region 11 with (first
      | (refine wpList_load_row_g (by rfl) 46 (.tmp 10) rfl p8 rfl _ _ _ _ HE9.out Try.underlying46 rfl infoHeader ?_)
      | (refine wpList_load_row_g (by rfl) 46 (.tmp 5) rfl p3 rfl _ _ _ _ HO9.out Try.underlying46 rfl infoHeader ?_))
    clear heq
    have HTU' := Lib.hid (HTU _ HB9.out)
    unfold SomeS at HTU'
    go_upto_region 12 with (first
      | (refine wpList_load_row rfl 29 (.tmp 6) rfl p5 rfl _ _ _ _ HT9.out Try.underlying29 rfl (by rw [HSZ.out]; exact size_sec) ?_)
      | (go_at_call 15; go_must (refine HTU'.out.mono ?_; rintro e w11 ⟨l2, hl2, rfl, hb11⟩; unfold secV; have HL2 := Lib.hid hl2; have HZ2 : Hid ((bvs l2).toArray.size = 128) := Lib.hid (by rw [secV_size, hl2]); have HB11 := Lib.hid (bnext HB9.out hb11); clear hb11 hl2))
      | (refine wpList_store_row rfl 29 (.tmp 12) (.tmp 74) rfl w11.heap.size zArr (bvs l2).toArray 29 rfl rfl (heap_alloc_last _ _) (by rw [HZ2.out]; exact size_sec) (by rw [HZ2.out, zArr_size]) (sec_one _) ?_))
    rw [World.setRow_alloc_new]
    have hV12 := heap_alloc_last w11 (.cells (bvs l2).toArray 29 (0, 0))
    have hB12 := bnext HB11.out ((Below.refl _ _).alloc (Nat.le_refl _) (.cells (bvs l2).toArray 29 (0, 0)))
    clear HB11 HTU' HTU HT9 HB9
    revert hV12 hB12
    generalize w11.alloc (.cells (bvs l2).toArray 29 (0, 0)) = w12
    generalize w11.heap.size = p11
    intro hV12 hB12
    have HV12 := Lib.hid hV12
    have HB12 := Lib.hid hB12
    clear hV12 hB12
    have HR1 := fun W => HRI l2 HL2.out W
    have HR2 := fun W => HRR l2 HL2.out W
    unfold rhdrE at HR1
    obtain ⟨ok2, hok2⟩ : ∃ ok2, rhdrOk l2 = ok2 := ⟨_, rfl⟩
    obtain ⟨⟨z0, z1, z2, z3, z4, z5⟩, hZ⟩ : ∃ Z, rhdrV l2 = Z := ⟨_, rfl⟩
    have hcZ : (Hdr.mk z0 z1 z2 z3 z4 z5).cells.toArray = #[.int .u64 (z0 : Int), .int .u64 (z1 : Int), .int .i64 z2, .int .i64 z3, .int .i64 z4, .int .u32 (z5 : Int)] := rfl
    simp only [hok2, hZ, hcZ] at HR1 HR2
    have HEQ2 := fun W => Lib.hid (eq_hdr W z0 z1 z2 z3 z4 z5)
    clear hok2 hZ hcZ HRI HRR
    go_upto_region 13 with (first
      | (refine wpList_load_row rfl 29 (.tmp 12) rfl p11 rfl _ _ _ _ HV12.out Try.underlying29 rfl (by rw [HZ2.out]; exact size_sec) ?_)
      | (go_at_call 19; go_must (refine (HR1 _).out.mono ?_; rintro e w13 ⟨rfl, hb13⟩; have HV13 := Lib.hid (old_heap HV12.out hb13); have HB13 := Lib.hid (bnext HB12.out hb13); clear hb13)))
    have hE14 := heap_alloc_last w13 (.cells #[.int .u64 (z0 : Int), .int .u64 (z1 : Int), .int .i64 z2, .int .i64 z3, .int .i64 z4, .int .u32 (z5 : Int)] 46 (0, 0))
    have hb14 : Below w13.heap.size w13 (w13.alloc (.cells #[.int .u64 (z0 : Int), .int .u64 (z1 : Int), .int .i64 z2, .int .i64 z3, .int .i64 z4, .int .u32 (z5 : Int)] 46 (0, 0))) := (Below.refl _ _).alloc (Nat.le_refl _) _
    have hV14 := old_heap HV13.out hb14
    have hB14 := bnext HB13.out hb14
    clear hb14 HV13 HB13 HV12 HB12 HR1
    revert hE14 hV14 hB14
    generalize w13.alloc (.cells #[.int .u64 (z0 : Int), .int .u64 (z1 : Int), .int .i64 z2, .int .i64 z3, .int .i64 z4, .int .u32 (z5 : Int)] 46 (0, 0)) = w14
    generalize w13.heap.size = p13
    intro hE14 hV14 hB14
    have HE14 := Lib.hid hE14
    have HV14 := Lib.hid hV14
    have HB14 := Lib.hid hB14
    clear hE14 hV14 hB14
    go_upto_region 14 with (first
      | (refine wpList_load_row rfl 29 (.tmp 12) rfl p11 rfl _ _ _ _ HV14.out Try.underlying29 rfl (by rw [HZ2.out]; exact size_sec) ?_)
      | (go_at_call 20; go_must (refine (HR2 _).out.mono ?_; rintro e w15 ⟨rfl, hb15⟩; have HE15 := Lib.hid (old_heap HE14.out hb15); have HB15 := Lib.hid (bnext HB14.out hb15); clear hb15)))
    have hF16 := heap_alloc_last w15 (.cells #[.int .u64 (z0 : Int), .int .u64 (z1 : Int), .int .i64 z2, .int .i64 z3, .int .i64 z4, .int .u32 (z5 : Int)] 45 (0, 0))
    have hb16 : Below w15.heap.size w15 (w15.alloc (.cells #[.int .u64 (z0 : Int), .int .u64 (z1 : Int), .int .i64 z2, .int .i64 z3, .int .i64 z4, .int .u32 (z5 : Int)] 45 (0, 0))) := (Below.refl _ _).alloc (Nat.le_refl _) _
    have hE16 := old_heap HE15.out hb16
    have hB16 := bnext HB15.out hb16
    clear hb16 HE15 HB15 HE14 HB14 HV14 HR2
    revert hF16 hE16 hB16
    generalize w15.alloc (.cells #[.int .u64 (z0 : Int), .int .u64 (z1 : Int), .int .i64 z2, .int .i64 z3, .int .i64 z4, .int .u32 (z5 : Int)] 45 (0, 0)) = w16
    generalize w15.heap.size = p15
    intro hF16 hE16 hB16
    have HE16 := Lib.hid hE16
    have HB16 := Lib.hid hB16
    have c0 : w16.cell? ⟨p15, 0, none⟩ = some (.int .u64 (z0 : Int)) := cell_row hF16 0
    have c1 : w16.cell? ⟨p15, 1, none⟩ = some (.int .u64 (z1 : Int)) := cell_row hF16 1
    have c2 : w16.cell? ⟨p15, 2, none⟩ = some (.int .i64 z2) := cell_row hF16 2
    have c3 : w16.cell? ⟨p15, 3, none⟩ = some (.int .i64 z3) := cell_row hF16 3
    have c4 : w16.cell? ⟨p15, 4, none⟩ = some (.int .i64 z4) := cell_row hF16 4
    have c5 : w16.cell? ⟨p15, 5, none⟩ = some (.int .u32 (z5 : Int)) := cell_row hF16 5
    clear hF16 hE16 hB16
    have heq2 := fun W => (HEQ2 W).out
    cases ok2
    all_goals
      go_wp2_with (refine wpList_load_row rfl 46 (.tmp 13) rfl p13 rfl _ _ _ _ HE16.out Try.underlying46 rfl infoHeader ?_)
      go_ret
      exact ⟨rfl, HB16.out⟩
  | false =>
    have he0 : okEH false = 1 := rfl
    rw [he0]
    clear he0
    obtain ⟨N9, hN9⟩ : ∃ N9, rhdrE S = N9 := ⟨_, rfl⟩
    have HRI1 := fun W => HRI S HSL.out W
    obtain ⟨⟨y0, y1, y2, y3, y4, y5⟩, hY⟩ : ∃ Y, rhdrV S = Y := ⟨_, rfl⟩
    simp only [hN9, hY] at HRI1
    have hcY : (Hdr.mk y0 y1 y2 y3 y4 y5).cells.toArray = #[.int .u64 (y0 : Int), .int .u64 (y1 : Int), .int .i64 y2, .int .i64 y3, .int .i64 y4, .int .u32 (y5 : Int)] := rfl
    simp only [hcY] at HRI1
    clear hN9 hY hcY
    go_upto_region 9 with (first
      | (refine wpList_load_row rfl 29 (.tmp 6) rfl p5 rfl _ _ _ _ HT7.out Try.underlying29 rfl (by rw [HSZ.out]; exact size_sec) ?_)
      | (refine wpList_load_row rfl 28 (.tmp 8) rfl p7 rfl _ _ _ _ HU7.out Try.underlying28 rfl (by rw [HSZ.out]; exact size_arr) ?_)
      | (go_at_call 19; go_must (refine (HRI1 _).out.mono ?_; rintro e w8 ⟨rfl, hb8⟩; have HO8 := Lib.hid (old_heap HO7.out hb8); have HT8 := Lib.hid (old_heap HT7.out hb8); have HB8 := Lib.hid (bnext HB7.out hb8); clear hb8)))
    have hE9 := heap_alloc_last w8 (.cells #[.int .u64 (y0 : Int), .int .u64 (y1 : Int), .int .i64 y2, .int .i64 y3, .int .i64 y4, .int .u32 (y5 : Int)] 46 (0, 0))
    have hb9 : Below w8.heap.size w8 (w8.alloc (.cells #[.int .u64 (y0 : Int), .int .u64 (y1 : Int), .int .i64 y2, .int .i64 y3, .int .i64 y4, .int .u32 (y5 : Int)] 46 (0, 0))) := (Below.refl _ _).alloc (Nat.le_refl _) _
    have hO9 := old_heap HO8.out hb9
    have hT9 := old_heap HT8.out hb9
    have hB9 := bnext HB8.out hb9
    clear hb9 HO8 HT8 HB8 HO7 HT7 HU7 HB7 HRI1
    revert hE9 hO9 hT9 hB9
    generalize w8.alloc (.cells #[.int .u64 (y0 : Int), .int .u64 (y1 : Int), .int .i64 y2, .int .i64 y3, .int .i64 y4, .int .u32 (y5 : Int)] 46 (0, 0)) = w9
    generalize w8.heap.size = p8
    intro hE9 hO9 hT9 hB9
    have HE9 := Lib.hid hE9
    have HO9 := Lib.hid hO9
    have HT9 := Lib.hid hT9
    have HB9 := Lib.hid hB9
    clear hE9 hO9 hT9 hB9
    go_upto_region 11 with fail
    have HTU' := Lib.hid (HTU _ HB9.out)
    unfold SomeS at HTU'
    go_upto_region 12 with (first
      | (refine wpList_load_row rfl 29 (.tmp 6) rfl p5 rfl _ _ _ _ HT9.out Try.underlying29 rfl (by rw [HSZ.out]; exact size_sec) ?_)
      | (go_at_call 15; go_must (refine HTU'.out.mono ?_; rintro e w11 ⟨l2, hl2, rfl, hb11⟩; unfold secV; have HL2 := Lib.hid hl2; have HZ2 : Hid ((bvs l2).toArray.size = 128) := Lib.hid (by rw [secV_size, hl2]); have HB11 := Lib.hid (bnext HB9.out hb11); clear hb11 hl2))
      | (refine wpList_store_row rfl 29 (.tmp 12) (.tmp 74) rfl w11.heap.size zArr (bvs l2).toArray 29 rfl rfl (heap_alloc_last _ _) (by rw [HZ2.out]; exact size_sec) (by rw [HZ2.out, zArr_size]) (sec_one _) ?_))
    rw [World.setRow_alloc_new]
    have hV12 := heap_alloc_last w11 (.cells (bvs l2).toArray 29 (0, 0))
    have hB12 := bnext HB11.out ((Below.refl _ _).alloc (Nat.le_refl _) (.cells (bvs l2).toArray 29 (0, 0)))
    clear HB11 HTU' HTU HT9 HB9
    revert hV12 hB12
    generalize w11.alloc (.cells (bvs l2).toArray 29 (0, 0)) = w12
    generalize w11.heap.size = p11
    intro hV12 hB12
    have HV12 := Lib.hid hV12
    have HB12 := Lib.hid hB12
    clear hV12 hB12
    have HR1 := fun W => HRI l2 HL2.out W
    have HR2 := fun W => HRR l2 HL2.out W
    unfold rhdrE at HR1
    obtain ⟨ok2, hok2⟩ : ∃ ok2, rhdrOk l2 = ok2 := ⟨_, rfl⟩
    obtain ⟨⟨z0, z1, z2, z3, z4, z5⟩, hZ⟩ : ∃ Z, rhdrV l2 = Z := ⟨_, rfl⟩
    have hcZ : (Hdr.mk z0 z1 z2 z3 z4 z5).cells.toArray = #[.int .u64 (z0 : Int), .int .u64 (z1 : Int), .int .i64 z2, .int .i64 z3, .int .i64 z4, .int .u32 (z5 : Int)] := rfl
    simp only [hok2, hZ, hcZ] at HR1 HR2
    have HEQ2 := fun W => Lib.hid (eq_hdr W z0 z1 z2 z3 z4 z5)
    clear hok2 hZ hcZ HRI HRR
    go_upto_region 13 with (first
      | (refine wpList_load_row rfl 29 (.tmp 12) rfl p11 rfl _ _ _ _ HV12.out Try.underlying29 rfl (by rw [HZ2.out]; exact size_sec) ?_)
      | (go_at_call 19; go_must (refine (HR1 _).out.mono ?_; rintro e w13 ⟨rfl, hb13⟩; have HV13 := Lib.hid (old_heap HV12.out hb13); have HB13 := Lib.hid (bnext HB12.out hb13); clear hb13)))
    have hE14 := heap_alloc_last w13 (.cells #[.int .u64 (z0 : Int), .int .u64 (z1 : Int), .int .i64 z2, .int .i64 z3, .int .i64 z4, .int .u32 (z5 : Int)] 46 (0, 0))
    have hb14 : Below w13.heap.size w13 (w13.alloc (.cells #[.int .u64 (z0 : Int), .int .u64 (z1 : Int), .int .i64 z2, .int .i64 z3, .int .i64 z4, .int .u32 (z5 : Int)] 46 (0, 0))) := (Below.refl _ _).alloc (Nat.le_refl _) _
    have hV14 := old_heap HV13.out hb14
    have hB14 := bnext HB13.out hb14
    clear hb14 HV13 HB13 HV12 HB12 HR1
    revert hE14 hV14 hB14
    generalize w13.alloc (.cells #[.int .u64 (z0 : Int), .int .u64 (z1 : Int), .int .i64 z2, .int .i64 z3, .int .i64 z4, .int .u32 (z5 : Int)] 46 (0, 0)) = w14
    generalize w13.heap.size = p13
    intro hE14 hV14 hB14
    have HE14 := Lib.hid hE14
    have HV14 := Lib.hid hV14
    have HB14 := Lib.hid hB14
    clear hE14 hV14 hB14
    go_upto_region 14 with (first
      | (refine wpList_load_row rfl 29 (.tmp 12) rfl p11 rfl _ _ _ _ HV14.out Try.underlying29 rfl (by rw [HZ2.out]; exact size_sec) ?_)
      | (go_at_call 20; go_must (refine (HR2 _).out.mono ?_; rintro e w15 ⟨rfl, hb15⟩; have HE15 := Lib.hid (old_heap HE14.out hb15); have HB15 := Lib.hid (bnext HB14.out hb15); clear hb15)))
    have hF16 := heap_alloc_last w15 (.cells #[.int .u64 (z0 : Int), .int .u64 (z1 : Int), .int .i64 z2, .int .i64 z3, .int .i64 z4, .int .u32 (z5 : Int)] 45 (0, 0))
    have hb16 : Below w15.heap.size w15 (w15.alloc (.cells #[.int .u64 (z0 : Int), .int .u64 (z1 : Int), .int .i64 z2, .int .i64 z3, .int .i64 z4, .int .u32 (z5 : Int)] 45 (0, 0))) := (Below.refl _ _).alloc (Nat.le_refl _) _
    have hE16 := old_heap HE15.out hb16
    have hB16 := bnext HB15.out hb16
    clear hb16 HE15 HB15 HE14 HB14 HV14 HR2
    revert hF16 hE16 hB16
    generalize w15.alloc (.cells #[.int .u64 (z0 : Int), .int .u64 (z1 : Int), .int .i64 z2, .int .i64 z3, .int .i64 z4, .int .u32 (z5 : Int)] 45 (0, 0)) = w16
    generalize w15.heap.size = p15
    intro hF16 hE16 hB16
    have HE16 := Lib.hid hE16
    have HB16 := Lib.hid hB16
    have c0 : w16.cell? ⟨p15, 0, none⟩ = some (.int .u64 (z0 : Int)) := cell_row hF16 0
    have c1 : w16.cell? ⟨p15, 1, none⟩ = some (.int .u64 (z1 : Int)) := cell_row hF16 1
    have c2 : w16.cell? ⟨p15, 2, none⟩ = some (.int .i64 z2) := cell_row hF16 2
    have c3 : w16.cell? ⟨p15, 3, none⟩ = some (.int .i64 z3) := cell_row hF16 3
    have c4 : w16.cell? ⟨p15, 4, none⟩ = some (.int .i64 z4) := cell_row hF16 4
    have c5 : w16.cell? ⟨p15, 5, none⟩ = some (.int .u32 (z5 : Int)) := cell_row hF16 5
    clear hF16 hE16 hB16
    have heq2 := fun W => (HEQ2 W).out
    cases ok2
    all_goals
      go_wp2_with (refine wpList_load_row rfl 46 (.tmp 13) rfl p13 rfl _ _ _ _ HE16.out Try.underlying46 rfl infoHeader ?_)
      go_ret
      exact ⟨rfl, HB16.out⟩
end Go.Proofs.Ytlcbfpcabalgcaa
