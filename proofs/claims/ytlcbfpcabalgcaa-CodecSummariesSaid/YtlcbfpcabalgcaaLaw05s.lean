/-
  CodecSummaries: the walk.
-/
import Derived.Test.YtlcbfpcabalgcaaCodSp
import Derived.Test.YtlcbfpcabalgcaaCodQ
namespace Go.Proofs.Ytlcbfpcabalgcaa
open Go.RowKit
set_option linter.unusedVariables false
set_option linter.unusedSimpArgs false
set_option linter.unnecessarySimpa false
structure Smy.Pre (x : Smy) : Prop where
  seq : x.seq < 2 ^ 64
  first : x.first < 2 ^ 64
  next : I64 x.next
  time : x.time < 2 ^ 32
  ents : ∀ y ∈ x.ents, y.Ok
theorem heq_secS (l : List UInt8) (h : l.length = 128) (W : World) : (Op.equalIn 10000 29 (.agg (bvs l).toArray) (.agg (bvs l).toArray)).run Try.prog W = .ok true W := by
  have q := equal_sector W l l h h
  rw [decide_eq_true (show l = l from rfl)] at q
  exact q
def okES (b : Bool) : Int := if b then 0 else 1
theorem own_readS {w : World} {base T c : Nat} {s : Option Addr} {L : List Ent5} {n : Nat} (h : w.ownsRow base T 4 (.slice s n c) n (rowsOf Ent5.cells L)) (hn : n = L.length) : ReadAt w s Ent5.cells 4 L ∧ ∀ a, s = some a → a.block < w.heap.size := by
  obtain ⟨A9, c9, e9, -, -, -, h9, h10⟩ := own_rows (F := fun _ => False) Ent5.cells_len h hn (fun _ _ => id)
  injection e9 with e9
  subst e9
  exact ⟨h9, fun a ha => (h10 a ha).1⟩
theorem range_belowS {w w' : World} {b o : Nat} {cs : List Value} (h : w.rangeAt b o cs) (hb : Below w.heap.size w w') : w'.rangeAt b o cs := fun j v hv => by
  have hc := h j v hv
  exact (hb.cell (p := ⟨b, o + j, none⟩) (World.block_lt_of_cell? w _ hc)).trans hc
theorem sum_oneV (x : Smy) (v : Value) (h : v.oneCell' = true) : (x.cells v).all (·.oneCell') = true := by
  unfold Smy.cells sumF
  simp only [List.all_toArray, List.all_cons, List.all_nil, h]
  rfl
theorem zsum_size : (#[.int .u64 0, .int .u64 0, .bool false, .int .i64 0, .int .u32 0, .slice none 0 0] : Array Value).size = 6 := rfl
theorem told_any (x : Smy) (s : Option Addr) (c : Nat) (E : Array Value) (hE : x.cells (.slice s x.ents.length c) = E) (hL : x.ents.length ≤ 1000) (W0 W : World) (hR : ReadAt W0 s Ent5.cells 4 x.ents) (hb : Below W0.heap.size W0 W) :
    Calls Try.prog 43 #[.agg E] W fun e w' => ∃ v', e = .returned (.agg (x.cells v')) ∧ w'.ownsRow W.heap.size 162 4 v' x.ents.length (rowsOf Ent5.cells x.ents) ∧ Below W.heap.size W w' := by
  subst hE
  exact ltold_any x s c W (hR.below Ent5.cells_len hb) (by omega)
theorem same_any (x : Smy) (s s' : Option Addr) (c c' : Nat) (E : Array Value) (hE : x.cells (.slice s' x.ents.length c') = E) (hL : x.ents.length ≤ 1000) (W : World) (hR : ReadAt W s Ent5.cells 4 x.ents) (hR' : ReadAt W s' Ent5.cells 4 x.ents) :
    Calls Try.prog 42 #[.agg (x.cells (.slice s x.ents.length c)), .agg E] W fun e w' => e = .returned (.bool true) ∧ Below W.heap.size W w' := by
  subst hE
  exact lsame_any x s s' c c' W hR hR' (by omega)
set_option maxRecDepth 100000 in
set_option maxHeartbeats 32000000 in
theorem codecSummaries_walk (x : Smy) (hx : x.Pre) (A : Option Addr) (c : Nat) (hLc : x.ents.length ≤ c) (hcm : c ≤ maxLen) (v : Value) (b : List UInt8) (w : World) (hR : ReadAt w A Ent5.cells 4 x.ents) (hn : b.length ≤ 140737488355328) (hv : Byt w v b) :
    Calls Try.prog 9 #[.agg (x.cells (.slice A x.ents.length c)), v] w fun e w' => e = .returned (.bool true) ∧ Below w.heap.size w w' := by
  obtain ⟨sv, cv, rfl, _⟩ := hv.form
  obtain ⟨seq, first, commit, next, time, L⟩ := x
  obtain ⟨r0, r1, r3, r4, rE⟩ := hx
  dsimp only at r0 r1 r3 r4 rE hLc hR
  have HA := fun W => Lib.hid (awake05 W)
  have HV := Lib.hid hv
  have HR := Lib.hid hR
  have HOK := Lib.hid rE
  have HPR := Lib.hid (⟨r0, r1, r3, r4⟩ : seq < 2 ^ 64 ∧ first < 2 ^ 64 ∧ I64 next ∧ time < 2 ^ 32)
  unfold maxLen at hcm
  have hcc : ∀ M : List Ent5, (Smy.mk seq first commit next time M).cells (.slice A (Smy.mk seq first commit next time M).ents.length c) = #[.int .u64 (seq : Int), .int .u64 (first : Int), .bool commit, .int .i64 next, .int .u32 (time : Int), .slice A M.length c] := fun M => rfl
  rw [hcc L]
  clear hv hR rE r0 r1 r3 r4
  have hb1 : Below w.heap.size w (w.alloc (.cells #[.int .u64 (seq : Int), .int .u64 (first : Int), .bool commit, .int .i64 next, .int .u32 (time : Int), .slice A L.length c] 101 (0, 0))) := (Below.refl _ _).alloc (Nat.le_refl _) _
  have hG1 := heap_alloc_last w (.cells #[.int .u64 (seq : Int), .int .u64 (first : Int), .bool commit, .int .i64 next, .int .u32 (time : Int), .slice A L.length c] 101 (0, 0))
  have HB1 := Lib.hid hb1
  have HG1 := Lib.hid hG1
  clear hb1 hG1
  go_enter Try.func9, Try.ntmps9
  go_upto_region 1 with fail
  revert HB1 HG1
  generalize w.alloc (.cells #[.int .u64 (seq : Int), .int .u64 (first : Int), .bool commit, .int .i64 next, .int .u32 (time : Int), .slice A L.length c] 101 (0, 0)) = w1
  intro HB1 HG1
  go_upto_region 3 with (go_at_call 10; go_must (refine (HA _).out.mono ?_; rintro e w2 ⟨rfl, hb2⟩; have HG2 := Lib.hid (old_heap HG1.out hb2); have HB2 := Lib.hid (bnext HB1.out hb2); clear hb2))
  clear HG1 HB1
  have k5 : w2.cell? ⟨w.heap.size, 5, none⟩ = some (.slice A L.length c) := cell_row HG2.out 5
  have k6 := free_row HG2.out 5
  go_upto_if 19 with fail
  go_cut [] (fun wc => ∃ M : List Ent5, M.length ≤ 12 ∧ Hid (ReadAt w A Ent5.cells 4 M) ∧ Hid (∀ x ∈ M, x.Ok) ∧ Hid (wc.heap[w.heap.size]? = some (.cells #[.int .u64 (seq : Int), .int .u64 (first : Int), .bool commit, .int .i64 next, .int .u32 (time : Int), .slice A M.length c] 101 (0, 0))) ∧ Hid (Below w.heap.size w wc))
  case first =>
    by_cases hlen : 12 < L.length
    · have hlI : (12 : Int) < (L.length : Int) := by omega
      have h12c : (12 : Int) ≤ (c : Int) := by omega
      have htl : (L.take 12).length = 12 := by rw [List.length_take]; omega
      have HTL := Lib.hid htl
      clear htl hlen
      go_wp2
      go_meet
      case rel =>
        refine ⟨L.take 12, by rw [HTL.out]; exact Nat.le_refl _, Lib.hid ?_, Lib.hid (fun x hx => HOK.out x (List.mem_of_mem_take hx)), Lib.hid ?_, Lib.hid (HB2.out.setCell (p := ⟨w.heap.size, 5, none⟩) (Nat.le_refl _) _)⟩
        · have hq := HR.out
          intro hne
          obtain ⟨bb, oo, e1, e2⟩ := hq (fun e => hne (by rw [e]; rfl))
          refine ⟨bb, oo, e1, fun i x hx j hj => e2 i x ?_ j hj⟩
          have hi : i < (L.take 12).length := (List.getElem?_eq_some_iff.1 hx).1
          rw [List.getElem?_take_of_lt (by rw [HTL.out] at hi; exact hi)] at hx
          exact hx
        · rw [HTL.out]
          have := head_set HG2.out 5 (.slice A 12 c)
          simpa using this
    · have hlI : ¬ ((12 : Int) < (L.length : Int)) := by omega
      go_wp2
      go_meet
      case rel => exact ⟨L, by omega, HR, HOK, HG2, HB2⟩
  case rest =>
  obtain ⟨M, hM, HRM, HOM, HG, HB⟩ := hcut
  clear HR HOK HG2 HB2 k5 k6 hLc
  have hox : (Smy.mk seq first commit next time M).Ok := ⟨HPR.out.1, HPR.out.2.1, HPR.out.2.2.1, HPR.out.2.2.2, HOM.out, by show M.length ≤ 1000; omega⟩
  have hC0 := hcc M
  obtain ⟨x, hxx⟩ : ∃ x : Smy, Smy.mk seq first commit next time M = x := ⟨_, rfl⟩
  have hxe : x.ents = M := by rw [← hxx]
  obtain ⟨C, hC⟩ : ∃ C, x.cells (.slice A x.ents.length c) = C := ⟨_, rfl⟩
  rw [hxx] at hox hC0
  rw [← hC0, show x.cells (.slice A M.length c) = C by rw [← hxe]; exact hC] at HG
  have HCS : Hid (C.size = 6) := by rw [← hC]; exact rfl
  have hro : ReadAt w A Ent5.cells 4 x.ents := by rw [hxe]; exact HRM.out
  have hxl : x.ents.length ≤ 12 := by rw [hxe]; exact hM
  have HXL := Lib.hid hxl
  obtain ⟨S, hS⟩ : ∃ S, sumS x = S := ⟨_, rfl⟩
  obtain ⟨ok, hok⟩ : ∃ ok, sumB x = ok := ⟨_, rfl⟩
  have hSl : S.length = 128 := by rw [← hS]; exact sumS_length x
  have HLS : ∀ W, Below w.heap.size w W → Hid (Calls Try.prog 39 #[.agg C] W fun e w' => ∃ v', e = .returned (.agg (x.cells v')) ∧ w'.ownsRow W.heap.size 163 4 v' x.ents.length (rowsOf Ent5.cells x.ents) ∧ Below W.heap.size W w') := fun W hb => Lib.hid (by
    rw [← hC]
    exact lsummary_any x A c W (hro.below Ent5.cells_len hb) (by omega))
  have HWS : ∀ s c' W, ReadAt W s Ent5.cells 4 x.ents → (∀ a, s = some a → a.block < W.heap.size) → Hid (Calls Try.prog 38 #[.agg (x.cells (.slice s x.ents.length c'))] W fun e w' => e = .returned (.tuple #[.agg (bvs S).toArray, .int .i64 (okES ok)]) ∧ Below W.heap.size W w') := fun s c' W h1 h2 => Lib.hid ((writeSummary_any x hox s c' W h1 h2).mono fun e w' h => by
    have h3 := h.1
    rw [sumE_eq, hok] at h3
    refine ⟨?_, h.2⟩
    rw [h3, ← hS]
    rfl)
  have HRW : ∀ W, Below w.heap.size w W → Hid (Calls Try.prog 40 #[.agg C] W fun e w' => e = .returned (.tuple #[.agg (bvs S).toArray, .bool ok]) ∧ Below W.heap.size W w') := fun W hb => Lib.hid (by
    rw [← hC]
    refine (rwriteSummary_any x hox A c W (hro.below Ent5.cells_len hb)).mono fun e w' h => ⟨?_, h.2⟩
    have h3 := h.1
    rw [show (sumWr x && mayB 3 (fB (sumL x))) = ok from hok] at h3
    rw [h3, ← hS]
    rfl)
  have hback : ok = true → sumOk S = true ∧ sumX S = x := fun h => by
    rw [← hS]
    exact sum_read x hox (by rw [hok, h])
  have HBK := Lib.hid hback
  have HRO := Lib.hid hro
  have HRI := fun (l : List UInt8) (hl : l.length = 128) W => Lib.hid (readSummary_any l W hl)
  have HRR := fun (l : List UInt8) (hl : l.length = 128) W => Lib.hid (rreadSummary_any l W hl)
  have HTU := fun W (hb : Below w.heap.size w W) => Lib.hid (turn_any S (.slice sv b.length cv) b W hSl hn (HV.out.below hb))
  have hes := fun W => heq_secS S hSl W
  have HSZ : Hid ((bvs S).toArray.size = 128) := Lib.hid (by rw [secV_size, hSl])
  have HSL := Lib.hid hSl
  have HCE := Lib.hid hC
  clear hS hok hSl hback hro hxl hC hC0 hxx hxe hox hM HRM HOM HPR hcc HV
  go_upto_region 6 with (first
    | (refine wpList_load_row rfl 101 (.tmp 2) rfl w.heap.size rfl _ _ _ _ HG.out Try.underlying101 rfl (by rw [HCS.out]; exact infoRSum) ?_)
    | (go_at_call 39; go_must (refine (HLS _ HB.out).out.mono ?_; rintro e w3 ⟨v3, rfl, ho3, hb3⟩; obtain ⟨s3, c3, rfl⟩ := own_slice1 ho3; have hro3 := own_readS ho3 rfl; have HW3 := HWS s3 c3 _ hro3.1 hro3.2; have HG3 := Lib.hid (old_heap HG.out hb3); have HB3 := Lib.hid (bnext HB.out hb3); clear ho3 hb3 hro3))
    | (go_at_call 38; go_must (refine HW3.out.mono ?_; rintro e w4 ⟨rfl, hb4⟩; have HG4 := Lib.hid (old_heap HG3.out hb4); have HB4 := Lib.hid (bnext HB3.out hb4); clear hb4))
    | (refine wpList_store_row rfl 29 (.tmp 5) (.tmp 28) rfl w4.heap.size zArr (bvs S).toArray 29 rfl rfl (heap_alloc_last _ _) (by rw [HSZ.out]; exact size_sec) (by rw [HSZ.out, zArr_size]) (sec_one _) ?_))
  rw [World.setRow_alloc_new]
  have hNew := heap_alloc_last w4 (.cells (bvs S).toArray 29 (0, 0))
  have hbN : Below w4.heap.size w4 (w4.alloc (.cells (bvs S).toArray 29 (0, 0))) := (Below.refl _ _).alloc (Nat.le_refl _) _
  have hHG5 := old_heap HG4.out hbN
  have hHB5 := bnext HB4.out hbN
  clear hbN HG4 HB4
  revert hNew hHG5 hHB5
  generalize w4.alloc (.cells (bvs S).toArray 29 (0, 0)) = w5
  generalize w4.heap.size = p5
  intro hNew hHG5 hHB5
  have HNw5 := Lib.hid hNew
  have HG5 := Lib.hid hHG5
  have HB5 := Lib.hid hHB5
  clear hNew hHG5 hHB5
  clear HG HB HG3 HB3 HW3 HLS HWS
  go_upto_region 7 with (first
    | (refine wpList_load_row rfl 101 (.tmp 2) rfl w.heap.size rfl _ _ _ _ HG5.out Try.underlying101 rfl (by rw [HCS.out]; exact infoRSum) ?_)
    | (go_at_call 40; go_must (refine (HRW _ HB5.out).out.mono ?_; rintro e w6 ⟨rfl, hb6⟩; have HG6 := Lib.hid (old_heap HG5.out hb6); have HT6 := Lib.hid (old_heap HNw5.out hb6); have HB6 := Lib.hid (bnext HB5.out hb6); clear hb6))
    | (refine wpList_store_row rfl 28 (.tmp 7) (.tmp 33) rfl w6.heap.size zArr (bvs S).toArray 28 rfl rfl (heap_alloc_last _ _) (by rw [HSZ.out]; exact size_arr) (by rw [HSZ.out, zArr_size]) (sec_one _) ?_))
  rw [World.setRow_alloc_new]
  have hNew := heap_alloc_last w6 (.cells (bvs S).toArray 28 (0, 0))
  have hbN : Below w6.heap.size w6 (w6.alloc (.cells (bvs S).toArray 28 (0, 0))) := (Below.refl _ _).alloc (Nat.le_refl _) _
  have hHG7 := old_heap HG6.out hbN
  have hHT7 := old_heap HT6.out hbN
  have hHB7 := bnext HB6.out hbN
  clear hbN HG6 HT6 HB6
  revert hNew hHG7 hHT7 hHB7
  generalize w6.alloc (.cells (bvs S).toArray 28 (0, 0)) = w7
  generalize w6.heap.size = p7
  intro hNew hHG7 hHT7 hHB7
  have HNw7 := Lib.hid hNew
  have HG7 := Lib.hid hHG7
  have HT7 := Lib.hid hHT7
  have HB7 := Lib.hid hHB7
  clear hNew hHG7 hHT7 hHB7
  clear HG5 HNw5 HB5 HRW
  cases ok with
  | true =>
    obtain ⟨hk1, hk2⟩ := HBK.out rfl
    have he0 : okES true = 0 := rfl
    rw [he0]
    have HRI1 : ∀ W, Hid (Calls Try.prog 41 #[.agg (bvs S).toArray] W fun e w' => ∃ v', e = .returned (.tuple #[.agg (x.cells v'), .int .i64 0]) ∧ w'.ownsRow W.heap.size 163 4 v' x.ents.length (rowsOf Ent5.cells x.ents) ∧ Below W.heap.size W w') := fun W => by
      have h := HRI S HSL.out W
      rw [hk1, hk2] at h
      exact h
    clear hk1 hk2 he0
    go_upto_region 10 with (first
      | (refine wpList_load_row rfl 29 (.tmp 5) rfl p5 rfl _ _ _ _ HT7.out Try.underlying29 rfl (by rw [HSZ.out]; exact size_sec) ?_)
      | (refine wpList_load_row rfl 28 (.tmp 7) rfl p7 rfl _ _ _ _ HNw7.out Try.underlying28 rfl (by rw [HSZ.out]; exact size_arr) ?_)
      | (go_at_call 41; go_must (refine (HRI1 _).out.mono ?_; rintro e w8 ⟨v8, rfl, ho8, hb8⟩; obtain ⟨s8, c8, rfl⟩ := own_slice1 ho8; have HO8 := Lib.hid ho8; have HG8 := Lib.hid (old_heap HG7.out hb8); have HT8 := Lib.hid (old_heap HT7.out hb8); have HB8 := Lib.hid (bnext HB7.out hb8); obtain ⟨E, hE⟩ : ∃ E, x.cells (.slice s8 x.ents.length c8) = E := ⟨_, rfl⟩; have HSE : Hid (E.size = 6) := (by rw [← hE]; exact rfl); have H1E : Hid (E.all (·.oneCell') = true) := (by unfold Hid; rw [← hE]; exact sum_one _ _ _ _); have HEE := Lib.hid hE; rw [hE]; clear hE; clear ho8 hb8))
      | (refine wpList_store_row rfl 105 (.tmp 9) (.tmp 55) rfl w8.heap.size _ E 105 rfl rfl (heap_alloc_last _ _) (by rw [HSE.out]; exact infoSummary) (by rw [HSE.out]; rfl) H1E.out ?_))
    rw [World.setRow_alloc_new]
    have hNew := heap_alloc_last w8 (.cells E 105 (0, 0))
    have hbN : Below w8.heap.size w8 (w8.alloc (.cells E 105 (0, 0))) := (Below.refl _ _).alloc (Nat.le_refl _) _
    have hHG9 := old_heap HG8.out hbN
    have hHT9 := old_heap HT8.out hbN
    have hHO9 := own_below HO8.out hbN
    have hHB9 := bnext HB8.out hbN
    clear hbN HG8 HT8 HO8 HB8
    revert hNew hHG9 hHT9 hHO9 hHB9
    generalize w8.alloc (.cells E 105 (0, 0)) = w9
    generalize w8.heap.size = p8
    intro hNew hHG9 hHT9 hHO9 hHB9
    have HNw9 := Lib.hid hNew
    have HG9 := Lib.hid hHG9
    have HT9 := Lib.hid hHT9
    have HO9 := Lib.hid hHO9
    have HB9 := Lib.hid hHB9
    clear hNew hHG9 hHT9 hHO9 hHB9
    clear HG7 HT7 HNw7 HB7
    have hrd8 := (own_readS HO9.out rfl).1
    have HRD8 := Lib.hid hrd8
    have HTO := fun W hb => Lib.hid (told_any x s8 c8 E HEE.out (Nat.le_trans HXL.out (by decide)) w9 W HRD8.out hb)
    have hq1 : w9.rangeAt p8 0 E.toList := box_range HNw9.out
    have hq2 : w9.rangeAt w.heap.size 0 C.toList := box_range HG9.out
    have HQ : Hid (w9.rangeAt p8 0 E.toList ∧ w9.rangeAt w.heap.size 0 C.toList ∧ Below w9.heap.size w9 w9) := ⟨hq1, hq2, Below.refl _ _⟩
    have hsz : (Try.prog.info? 105).map (·.size) = some E.toList.length := by rw [Array.length_toList, HSE.out]; exact infoSummary
    have hsr : (Try.prog.info? 101).map (·.size) = some C.toList.length := by rw [Array.length_toList, HCS.out]; exact infoRSum
    clear hq1 hq2 hrd8 HRI1
    refine wp_region_held_drew (S := (fun w' => w'.rangeAt p8 0 E.toList ∧ w'.rangeAt w.heap.size 0 C.toList ∧ Below w9.heap.size w9 w')) (by kernel_rfl) (by exact ⟨HQ.out.1, HQ.out.2.1, HQ.out.2.2.drew⟩) (fun hHeld => ?_)
    refine take1_ (i := 0) (v := ?_) (a' := ?_) (some 57) #[true, false, false, false, false, false, false, false, false, false, false, false] rfl rfl (by kernel_rfl) (fun _ _ _ h => h) (Or.inl ⟨by rfl, ?_⟩) hHeld ?_ ?_
    rotate_left
    · (intro w hSw; (try dsimp only at hSw); obtain ⟨hq1, hq2, hq3⟩ := hSw; go_simp; (try with_reducible rfl))
    rotate_left
    · simp only [Act.put, List.setIfInBounds_toArray, List.set_cons_zero, List.set_cons_succ]
      rfl
    refine take1_ (i := 1) (v := ?_) (a' := ?_) (some 58) #[true, true, false, false, false, false, false, false, false, false, false, false] rfl rfl (by kernel_rfl) (fun _ _ _ h => h) (Or.inl ⟨by rfl, ?_⟩) hHeld ?_ ?_
    rotate_left
    · (intro w hSw; (try dsimp only at hSw); obtain ⟨hq1, hq2, hq3⟩ := hSw; go_simp; (try with_reducible rfl))
    rotate_left
    · simp only [Act.put, List.setIfInBounds_toArray, List.set_cons_zero, List.set_cons_succ]
      rfl
    refine take1_ (i := 2) (v := ?_) (a' := ?_) (some 59) #[true, true, true, false, false, false, false, false, false, false, false, false] rfl rfl (by kernel_rfl) (fun _ _ _ h => h) (Or.inl ⟨by rfl, ?_⟩) hHeld ?_ ?_
    rotate_left
    · (intro w hSw; (try dsimp only at hSw); obtain ⟨hq1, hq2, hq3⟩ := hSw; go_simp; (try with_reducible rfl))
    rotate_left
    · simp only [Act.put, List.setIfInBounds_toArray, List.set_cons_zero, List.set_cons_succ]
      rfl
    refine take1_ (i := 3) (v := ?_) (a' := ?_) (some 60) #[true, true, true, true, false, false, false, false, false, false, false, false] rfl rfl (by kernel_rfl) (fun _ _ _ h => h) (Or.inl ⟨by rfl, ?_⟩) hHeld ?_ ?_
    rotate_left
    · (intro w hSw; (try dsimp only at hSw); obtain ⟨hq1, hq2, hq3⟩ := hSw; go_simp; (try with_reducible rfl))
    rotate_left
    · simp only [Act.put, List.setIfInBounds_toArray, List.set_cons_zero, List.set_cons_succ]
      rfl
    refine take1_ (i := 4) (v := ?_) (a' := ?_) (some 61) #[true, true, true, true, true, false, false, false, false, false, false, false] rfl rfl (by kernel_rfl) (fun _ _ _ h => h) (Or.inl ⟨by rfl, ?_⟩) hHeld ?_ ?_
    rotate_left
    · (intro w hSw; (try dsimp only at hSw); obtain ⟨hq1, hq2, hq3⟩ := hSw; go_simp; (try with_reducible rfl))
    rotate_left
    · simp only [Act.put, List.setIfInBounds_toArray, List.set_cons_zero, List.set_cons_succ]
      rfl
    refine take1_ (i := 5) (v := .agg E) (a' := ?_) (some 62) #[true, true, true, true, true, true, false, false, false, false, false, false] rfl rfl (by kernel_rfl) (fun _ _ _ h => h) (yieldsIf_load_mid (by rfl) 105 (.tmp 9) rfl p8 0 rfl E.toList _ (fun w h => h.1) Try.underlying105 rfl hsz) hHeld ?_ ?_
    rotate_left
    · simp only [Act.put, List.setIfInBounds_toArray, List.set_cons_zero, List.set_cons_succ]
      rfl
    refine take1_ (i := 7) (v := .agg C) (a' := ?_) (some 64) #[true, true, true, true, true, true, false, true, false, false, false, false] rfl rfl (by kernel_rfl) (fun _ _ _ h => h) (yieldsIf_load_mid (by rfl) 101 (.tmp 2) rfl w.heap.size 0 rfl C.toList _ (fun w h => h.2.1) Try.underlying101 rfl hsr) hHeld ?_ ?_
    rotate_left
    · simp only [Act.put, List.setIfInBounds_toArray, List.set_cons_zero, List.set_cons_succ]
      rfl
    refine loud1_ (i := 6) (some 63) #[true, true, true, true, true, true, true, true, false, false, false, false] rfl rfl (by kernel_rfl) (fun K hK => ?_)
    go_simp
    (go_at_call 43; go_must (refine (HTO _ hHeld.2.2).out.mono ?_; rintro e wa ⟨va, rfl, hoa, hba⟩; obtain ⟨sa, ca, rfl⟩ := own_slice1 hoa; have HOa := Lib.hid (own_readS hoa rfl).1; have hnx : wa.rangeAt p8 0 E.toList ∧ wa.rangeAt w.heap.size 0 C.toList ∧ Below w9.heap.size w9 wa := ⟨range_belowS hHeld.1 hba, range_belowS hHeld.2.1 hba, bnext hHeld.2.2 hba⟩))
    refine hK.out _ _ (by exact hnx) (fun hHeld' => ?_)
    clear hK K hHeld
    have hHeld := hHeld'
    clear hHeld'
    try simp only [Act.put, List.setIfInBounds_toArray, List.set_cons_zero, List.set_cons_succ]
    refine loud1_ (i := 8) (some 65) #[true, true, true, true, true, true, true, true, true, false, false, false] rfl rfl (by kernel_rfl) (fun K hK => ?_)
    go_simp
    (go_at_call 42; go_must (refine (same_any x sa A ca c C HCE.out (Nat.le_trans HXL.out (by decide)) _ HOa.out (HRO.out.below Ent5.cells_len (bnext HB9.out hHeld.2.2))).mono ?_; rintro e w10 ⟨rfl, hbc⟩; have hnx : w10.rangeAt p8 0 E.toList ∧ w10.rangeAt w.heap.size 0 C.toList ∧ Below w9.heap.size w9 w10 := ⟨range_belowS hHeld.1 hbc, range_belowS hHeld.2.1 hbc, bnext hHeld.2.2 hbc⟩))
    refine hK.out _ _ (by exact hnx) (fun hHeld' => ?_)
    clear hK K hHeld
    have hHeld := hHeld'
    clear hHeld'
    try simp only [Act.put, List.setIfInBounds_toArray, List.set_cons_zero, List.set_cons_succ]
    refine take1_ (i := 9) (v := ?_) (a' := ?_) (some 66) #[true, true, true, true, true, true, true, true, true, true, false, false] rfl rfl (by kernel_rfl) (fun _ _ _ h => h) (Or.inl ⟨by rfl, ?_⟩) hHeld ?_ ?_
    rotate_left
    · (intro w hSw; (try dsimp only at hSw); obtain ⟨hq1, hq2, hq3⟩ := hSw; go_simp; (try with_reducible rfl))
    rotate_left
    · simp only [Act.put, List.setIfInBounds_toArray, List.set_cons_zero, List.set_cons_succ]
      rfl
    refine take1_ (i := 10) (v := ?_) (a' := ?_) (some 67) #[true, true, true, true, true, true, true, true, true, true, true, false] rfl rfl (by kernel_rfl) (fun _ _ _ h => h) (Or.inl ⟨by rfl, ?_⟩) hHeld ?_ ?_
    rotate_left
    · (intro w hSw; (try dsimp only at hSw); obtain ⟨hq1, hq2, hq3⟩ := hSw; go_simp; (try with_reducible rfl))
    rotate_left
    · simp only [Act.put, List.setIfInBounds_toArray, List.set_cons_zero, List.set_cons_succ]
      rfl
    refine take1_ (i := 11) (v := ?_) (a' := ?_) (some 68) #[true, true, true, true, true, true, true, true, true, true, true, true] rfl rfl (by kernel_rfl) (fun _ _ _ h => h) (Or.inl ⟨by rfl, ?_⟩) hHeld ?_ ?_
    rotate_left
    · (intro w hSw; (try dsimp only at hSw); obtain ⟨hq1, hq2, hq3⟩ := hSw; go_simp; (try with_reducible rfl))
    rotate_left
    · simp only [Act.put, List.setIfInBounds_toArray, List.set_cons_zero, List.set_cons_succ]
      rfl
    refine wpAnyH_done (by kernel_rfl) ?_ _
    have HT10 := Lib.hid (old_heap HT9.out hHeld.2.2)
    have HB10 := Lib.hid (bnext HB9.out hHeld.2.2)
    clear hHeld HQ hsz hsr HTO HRD8 HNw9 HG9 HT9 HO9 HB9
    have HTU' := Lib.hid (HTU _ HB10.out)
    unfold SomeS at HTU'
    go_upto_region 13 with (first
      | (refine wpList_load_row rfl 29 (.tmp 5) rfl p5 rfl _ _ _ _ HT10.out Try.underlying29 rfl (by rw [HSZ.out]; exact size_sec) ?_)
      | (go_at_call 15; go_must (refine HTU'.out.mono ?_; rintro e w11 ⟨l2, hl2, rfl, hb11⟩; unfold secV; have HL2 := Lib.hid hl2; have HZ2 : Hid ((bvs l2).toArray.size = 128) := Lib.hid (by rw [secV_size, hl2]); have HB11 := Lib.hid (bnext HB10.out hb11); clear hb11 hl2))
      | (refine wpList_store_row rfl 29 (.tmp 11) (.tmp 71) rfl w11.heap.size zArr (bvs l2).toArray 29 rfl rfl (heap_alloc_last _ _) (by rw [HZ2.out]; exact size_sec) (by rw [HZ2.out, zArr_size]) (sec_one _) ?_))
    rw [World.setRow_alloc_new]
    have hNew := heap_alloc_last w11 (.cells (bvs l2).toArray 29 (0, 0))
    have hbN : Below w11.heap.size w11 (w11.alloc (.cells (bvs l2).toArray 29 (0, 0))) := (Below.refl _ _).alloc (Nat.le_refl _) _
    have hHB12 := bnext HB11.out hbN
    clear hbN HB11
    revert hNew hHB12
    generalize w11.alloc (.cells (bvs l2).toArray 29 (0, 0)) = w12
    generalize w11.heap.size = p11
    intro hNew hHB12
    have HNw12 := Lib.hid hNew
    have HB12 := Lib.hid hHB12
    clear hNew hHB12
    clear HTU' HTU HT10 HB10
    have HR1 := fun W => HRI l2 HL2.out W
    have HR2 := fun W => HRR l2 HL2.out W
    unfold RlSum at HR1
    unfold RrSum at HR2
    have hrx := sumX_ref l2
    have hrn : sumOk l2 = false → sumX l2 = sumNone := fun h => by unfold sumX; rw [h]; rfl
    have hxk := sumRdX_ok l2
    simp only [← sumOk_ref] at HR2
    obtain ⟨okT, hokT⟩ : ∃ okT, sumOk l2 = okT := ⟨_, rfl⟩
    have hlen : (sumX l2).ents.length ≤ 1000 := by unfold sumX; split; exact hxk.len; decide
    obtain ⟨y, hy⟩ : ∃ y, sumX l2 = y := ⟨_, rfl⟩
    simp only [hokT, hy] at HR1 HR2 hrx hrn hlen
    clear hxk HRI HRR hokT hy
    have HLY := Lib.hid hlen
    have HRX := Lib.hid hrx
    have HRN := Lib.hid hrn
    clear hlen hrx hrn
    cases okT with
    | true =>
      go_upto_region 14 with (first
        | (refine wpList_load_row rfl 29 (.tmp 11) rfl p11 rfl _ _ _ _ HNw12.out Try.underlying29 rfl (by rw [HZ2.out]; exact size_sec) ?_)
        | (go_at_call 41; go_must (refine (HR1 _).out.mono ?_; rintro e w13 ⟨v13, rfl, ho13, hb13⟩; obtain ⟨s13, c13, rfl⟩ := own_slice1 ho13; have HO13 := Lib.hid ho13; have HV13 := Lib.hid (old_heap HNw12.out hb13); have HB13 := Lib.hid (bnext HB12.out hb13); obtain ⟨F, hF⟩ : ∃ F, Smy.cells y (.slice s13 (Smy.ents y).length c13) = F := ⟨_, rfl⟩; have HSF : Hid (F.size = 6) := (by rw [← hF]; exact rfl); have H1F : Hid (F.all (·.oneCell') = true) := (by unfold Hid; rw [← hF]; exact sum_one _ _ _ _); have HEF := Lib.hid hF; rw [hF]; clear hF; clear ho13 hb13))
        | (refine wpList_store_row rfl 105 (.tmp 12) (.tmp 75) rfl w13.heap.size _ F 105 rfl rfl (heap_alloc_last _ _) (by rw [HSF.out]; exact infoSummary) (by rw [HSF.out]; rfl) H1F.out ?_))
      rw [World.setRow_alloc_new]
      have hNew := heap_alloc_last w13 (.cells F 105 (0, 0))
      have hbN : Below w13.heap.size w13 (w13.alloc (.cells F 105 (0, 0))) := (Below.refl _ _).alloc (Nat.le_refl _) _
      have hHV14 := old_heap HV13.out hbN
      have hHO14 := own_below HO13.out hbN
      have hHB14 := bnext HB13.out hbN
      clear hbN HV13 HO13 HB13
      revert hNew hHV14 hHO14 hHB14
      generalize w13.alloc (.cells F 105 (0, 0)) = w14
      generalize w13.heap.size = p13
      intro hNew hHV14 hHO14 hHB14
      have HNw14 := Lib.hid hNew
      have HV14 := Lib.hid hHV14
      have HO14 := Lib.hid hHO14
      have HB14 := Lib.hid hHB14
      clear hNew hHV14 hHO14 hHB14
      clear HNw12 HB12 HR1
      go_upto_region 17 with (first
        | (refine wpList_load_row rfl 29 (.tmp 11) rfl p11 rfl _ _ _ _ HV14.out Try.underlying29 rfl (by rw [HZ2.out]; exact size_sec) ?_)
        | (go_at_call 44; go_must (refine (HR2 _).out.mono ?_; rintro e w15 ⟨z, v15, rfl, hz, hb15, hv15⟩; obtain ⟨hz1, hz2⟩ := hz (by simp); rw [← HRX.out (by simp)] at hz1; subst hz1; obtain ⟨s15, c15, rfl⟩ := own_slice1 hz2; have HO15 := Lib.hid hz2; have HE15 := Lib.hid (old_heap HNw14.out hb15); have HP15 := Lib.hid (own_below HO14.out hb15); have HB15 := Lib.hid (bnext HB14.out hb15); obtain ⟨D, hD⟩ : ∃ D, z.cells (.slice s15 z.ents.length c15) = D := ⟨_, rfl⟩; have HSD : Hid (D.size = 6) := (by rw [← hD]; exact rfl); have H1D : Hid (D.all (·.oneCell') = true) := (by unfold Hid; rw [← hD]; exact sum_one _ _ _ _); have HED := Lib.hid hD; rw [hD]; clear hD; clear hz hz2 hb15 hv15))
        | (refine wpList_store_row rfl 101 (.tmp 13) (.tmp 80) rfl w15.heap.size _ D 101 rfl rfl (heap_alloc_last _ _) (by rw [HSD.out]; exact infoRSum) (by rw [HSD.out]; rfl) H1D.out ?_))
      rw [World.setRow_alloc_new]
      have hNew := heap_alloc_last w15 (.cells D 101 (0, 0))
      have hbN : Below w15.heap.size w15 (w15.alloc (.cells D 101 (0, 0))) := (Below.refl _ _).alloc (Nat.le_refl _) _
      have hHE16 := old_heap HE15.out hbN
      have hHP16 := own_below HP15.out hbN
      have hHO16 := own_below HO15.out hbN
      have hHB16 := bnext HB15.out hbN
      clear hbN HE15 HP15 HO15 HB15
      revert hNew hHE16 hHP16 hHO16 hHB16
      generalize w15.alloc (.cells D 101 (0, 0)) = w16
      generalize w15.heap.size = p15
      intro hNew hHE16 hHP16 hHO16 hHB16
      have HNw16 := Lib.hid hNew
      have HE16 := Lib.hid hHE16
      have HP16 := Lib.hid hHP16
      have HO16 := Lib.hid hHO16
      have HB16 := Lib.hid hHB16
      clear hNew hHE16 hHP16 hHO16 hHB16
      clear HNw14 HV14 HO14 HB14 HR2
      have hrd13 := (own_readS HP16.out rfl).1
      have hrd15 := (own_readS HO16.out rfl).1
      have HRD13 := Lib.hid hrd13
      have HRD15 := Lib.hid hrd15
      clear hrd13 hrd15
      have hq1 : w16.rangeAt p13 0 F.toList := box_range HE16.out
      have hq2 : w16.rangeAt p15 0 D.toList := box_range HNw16.out
      have HQ : Hid (w16.rangeAt p13 0 F.toList ∧ w16.rangeAt p15 0 D.toList ∧ Below w16.heap.size w16 w16) := ⟨hq1, hq2, Below.refl _ _⟩
      have hsz : (Try.prog.info? 105).map (·.size) = some F.toList.length := by rw [Array.length_toList, HSF.out]; exact infoSummary
      have hsr : (Try.prog.info? 101).map (·.size) = some D.toList.length := by rw [Array.length_toList, HSD.out]; exact infoRSum
      have HTO := fun W hb => Lib.hid (told_any z s13 c13 F HEF.out HLY.out w16 W HRD13.out hb)
      clear hq1 hq2 HE16 HNw16
      refine wp_region_held_drew (S := (fun w' => w'.rangeAt p13 0 F.toList ∧ w'.rangeAt p15 0 D.toList ∧ Below w16.heap.size w16 w')) (by kernel_rfl) (by exact ⟨HQ.out.1, HQ.out.2.1, HQ.out.2.2.drew⟩) (fun hHeld => ?_)
      refine take1_ (i := 0) (v := .agg F) (a' := ?_) (some 85) #[true, false, false, false, false, false, false, false, false, false, false, false, false, false, false, false, false, false] rfl rfl (by kernel_rfl) (fun _ _ _ h => h) (yieldsIf_load_mid (by rfl) 105 (.tmp 12) rfl p13 0 rfl F.toList _ (fun w h => h.1) Try.underlying105 rfl hsz) hHeld ?_ ?_
      rotate_left
      · simp only [Act.put, List.setIfInBounds_toArray, List.set_cons_zero, List.set_cons_succ]
        rfl
      refine take1_ (i := 2) (v := .agg D) (a' := ?_) (some 87) #[true, false, true, false, false, false, false, false, false, false, false, false, false, false, false, false, false, false] rfl rfl (by kernel_rfl) (fun _ _ _ h => h) (yieldsIf_load_mid (by rfl) 101 (.tmp 13) rfl p15 0 rfl D.toList _ (fun w h => h.2.1) Try.underlying101 rfl hsr) hHeld ?_ ?_
      rotate_left
      · simp only [Act.put, List.setIfInBounds_toArray, List.set_cons_zero, List.set_cons_succ]
        rfl
      refine loud1_ (i := 1) (some 86) #[true, true, true, false, false, false, false, false, false, false, false, false, false, false, false, false, false, false] rfl rfl (by kernel_rfl) (fun K hK => ?_)
      go_simp
      (go_at_call 43; go_must (refine (HTO _ hHeld.2.2).out.mono ?_; rintro e w17 ⟨v17, rfl, ho17, hb17⟩; obtain ⟨s17, c17, rfl⟩ := own_slice1 ho17; have HO17 := Lib.hid (own_readS ho17 rfl).1; have hnx : w17.rangeAt p13 0 F.toList ∧ w17.rangeAt p15 0 D.toList ∧ Below w16.heap.size w16 w17 := ⟨range_belowS hHeld.1 hb17, range_belowS hHeld.2.1 hb17, bnext hHeld.2.2 hb17⟩))
      refine hK.out _ _ (by exact hnx) (fun hHeld' => ?_)
      clear hK K hHeld
      have hHeld := hHeld'
      clear hHeld'
      try simp only [Act.put, List.setIfInBounds_toArray, List.set_cons_zero, List.set_cons_succ]
      refine loud1_ (i := 3) (some 88) #[true, true, true, true, false, false, false, false, false, false, false, false, false, false, false, false, false, false] rfl rfl (by kernel_rfl) (fun K hK => ?_)
      go_simp
      (go_at_call 42; go_must (refine (same_any z s17 s15 c17 _ D HED.out HLY.out _ HO17.out (HRD15.out.below Ent5.cells_len hHeld.2.2)).mono ?_; rintro e w18 ⟨rfl, hb18⟩; have hnx : w18.rangeAt p13 0 F.toList ∧ w18.rangeAt p15 0 D.toList ∧ Below w16.heap.size w16 w18 := ⟨range_belowS hHeld.1 hb18, range_belowS hHeld.2.1 hb18, bnext hHeld.2.2 hb18⟩))
      refine hK.out _ _ (by exact hnx) (fun hHeld' => ?_)
      clear hK K hHeld
      have hHeld := hHeld'
      clear hHeld'
      try simp only [Act.put, List.setIfInBounds_toArray, List.set_cons_zero, List.set_cons_succ]
      refine take1_ (i := 4) (v := ?_) (a' := ?_) (some 89) #[true, true, true, true, true, false, false, false, false, false, false, false, false, false, false, false, false, false] rfl rfl (by kernel_rfl) (fun _ _ _ h => h) (Or.inl ⟨by rfl, ?_⟩) hHeld ?_ ?_
      rotate_left
      · (intro w hSw; (try dsimp only at hSw); obtain ⟨hq1, hq2, hq3⟩ := hSw; go_simp; (try with_reducible rfl))
      rotate_left
      · simp only [Act.put, List.setIfInBounds_toArray, List.set_cons_zero, List.set_cons_succ]
        rfl
      refine take1_ (i := 5) (v := ?_) (a' := ?_) (some 90) #[true, true, true, true, true, true, false, false, false, false, false, false, false, false, false, false, false, false] rfl rfl (by kernel_rfl) (fun _ _ _ h => h) (Or.inl ⟨by rfl, ?_⟩) hHeld ?_ ?_
      rotate_left
      · (intro w hSw; (try dsimp only at hSw); obtain ⟨hq1, hq2, hq3⟩ := hSw; go_simp; (try with_reducible rfl))
      rotate_left
      · simp only [Act.put, List.setIfInBounds_toArray, List.set_cons_zero, List.set_cons_succ]
        rfl
      refine take1_ (i := 6) (v := ?_) (a' := ?_) (some 91) #[true, true, true, true, true, true, true, false, false, false, false, false, false, false, false, false, false, false] rfl rfl (by kernel_rfl) (fun _ _ _ h => h) (Or.inl ⟨by rfl, ?_⟩) hHeld ?_ ?_
      rotate_left
      · (intro w hSw; (try dsimp only at hSw); obtain ⟨hq1, hq2, hq3⟩ := hSw; go_simp; (try with_reducible rfl))
      rotate_left
      · simp only [Act.put, List.setIfInBounds_toArray, List.set_cons_zero, List.set_cons_succ]
        rfl
      refine take1_ (i := 7) (v := ?_) (a' := ?_) (some 92) #[true, true, true, true, true, true, true, true, false, false, false, false, false, false, false, false, false, false] rfl rfl (by kernel_rfl) (fun _ _ _ h => h) (Or.inl ⟨by rfl, ?_⟩) hHeld ?_ ?_
      rotate_left
      · (intro w hSw; (try dsimp only at hSw); obtain ⟨hq1, hq2, hq3⟩ := hSw; go_simp; (try with_reducible rfl))
      rotate_left
      · simp only [Act.put, List.setIfInBounds_toArray, List.set_cons_zero, List.set_cons_succ]
        rfl
      refine take1_ (i := 8) (v := ?_) (a' := ?_) (some 93) #[true, true, true, true, true, true, true, true, true, false, false, false, false, false, false, false, false, false] rfl rfl (by kernel_rfl) (fun _ _ _ h => h) (Or.inl ⟨by rfl, ?_⟩) hHeld ?_ ?_
      rotate_left
      · (intro w hSw; (try dsimp only at hSw); obtain ⟨hq1, hq2, hq3⟩ := hSw; go_simp; (try with_reducible rfl))
      rotate_left
      · simp only [Act.put, List.setIfInBounds_toArray, List.set_cons_zero, List.set_cons_succ]
        rfl
      refine take1_ (i := 9) (v := ?_) (a' := ?_) (some 94) #[true, true, true, true, true, true, true, true, true, true, false, false, false, false, false, false, false, false] rfl rfl (by kernel_rfl) (fun _ _ _ h => h) (Or.inl ⟨by rfl, ?_⟩) hHeld ?_ ?_
      rotate_left
      · (intro w hSw; (try dsimp only at hSw); obtain ⟨hq1, hq2, hq3⟩ := hSw; go_simp; (try with_reducible rfl))
      rotate_left
      · simp only [Act.put, List.setIfInBounds_toArray, List.set_cons_zero, List.set_cons_succ]
        rfl
      refine take1_ (i := 10) (v := ?_) (a' := ?_) (some 95) #[true, true, true, true, true, true, true, true, true, true, true, false, false, false, false, false, false, false] rfl rfl (by kernel_rfl) (fun _ _ _ h => h) (Or.inl ⟨by rfl, ?_⟩) hHeld ?_ ?_
      rotate_left
      · (intro w hSw; (try dsimp only at hSw); obtain ⟨hq1, hq2, hq3⟩ := hSw; go_simp; (try with_reducible rfl))
      rotate_left
      · simp only [Act.put, List.setIfInBounds_toArray, List.set_cons_zero, List.set_cons_succ]
        rfl
      refine take1_ (i := 11) (v := ?_) (a' := ?_) (some 96) #[true, true, true, true, true, true, true, true, true, true, true, true, false, false, false, false, false, false] rfl rfl (by kernel_rfl) (fun _ _ _ h => h) (Or.inl ⟨by rfl, ?_⟩) hHeld ?_ ?_
      rotate_left
      · (intro w hSw; (try dsimp only at hSw); obtain ⟨hq1, hq2, hq3⟩ := hSw; go_simp; (try with_reducible rfl))
      rotate_left
      · simp only [Act.put, List.setIfInBounds_toArray, List.set_cons_zero, List.set_cons_succ]
        rfl
      refine take1_ (i := 12) (v := ?_) (a' := ?_) (some 97) #[true, true, true, true, true, true, true, true, true, true, true, true, true, false, false, false, false, false] rfl rfl (by kernel_rfl) (fun _ _ _ h => h) (Or.inl ⟨by rfl, ?_⟩) hHeld ?_ ?_
      rotate_left
      · (intro w hSw; (try dsimp only at hSw); obtain ⟨hq1, hq2, hq3⟩ := hSw; go_simp; (try with_reducible rfl))
      rotate_left
      · simp only [Act.put, List.setIfInBounds_toArray, List.set_cons_zero, List.set_cons_succ]
        rfl
      refine off_ (by kernel_rfl) (fun _ _ d _ _ h => by cases d <;> exact h) hHeld [13, 14] [some 98, some 99] [(97, some true)] #[true, true, true, true, true, true, true, true, true, true, true, true, true, true, true, false, false, false] 3 rfl (by kernel_rfl) (by repeat (first | exact trivial | refine ⟨by rfl, ?_⟩)) (a' := ?_) ?_ ?_
      rotate_left
      · simp only [putOff, Act.put, List.setIfInBounds_toArray, List.set_cons_zero, List.set_cons_succ]
        rfl
      refine take1_ (i := 15) (v := ?_) (a' := ?_) (some 100) #[true, true, true, true, true, true, true, true, true, true, true, true, true, true, true, true, false, false] rfl rfl (by kernel_rfl) (fun _ _ _ h => h) (Or.inl ⟨by rfl, ?_⟩) hHeld ?_ ?_
      rotate_left
      · (intro w hSw; (try dsimp only at hSw); obtain ⟨hq1, hq2, hq3⟩ := hSw; go_simp; (try with_reducible rfl))
      rotate_left
      · simp only [Act.put, List.setIfInBounds_toArray, List.set_cons_zero, List.set_cons_succ]
        rfl
      refine take1_ (i := 16) (v := ?_) (a' := ?_) (some 101) #[true, true, true, true, true, true, true, true, true, true, true, true, true, true, true, true, true, false] rfl rfl (by kernel_rfl) (fun _ _ _ h => h) (Or.inl ⟨by rfl, ?_⟩) hHeld ?_ ?_
      rotate_left
      · (intro w hSw; (try dsimp only at hSw); obtain ⟨hq1, hq2, hq3⟩ := hSw; go_simp; (try with_reducible rfl))
      rotate_left
      · simp only [Act.put, List.setIfInBounds_toArray, List.set_cons_zero, List.set_cons_succ]
        rfl
      refine take1_ (i := 17) (v := ?_) (a' := ?_) (some 4) #[true, true, true, true, true, true, true, true, true, true, true, true, true, true, true, true, true, true] rfl rfl (by kernel_rfl) (fun _ _ _ h => h) (Or.inl ⟨by rfl, ?_⟩) hHeld ?_ ?_
      rotate_left
      · (intro w hSw; (try dsimp only at hSw); obtain ⟨hq1, hq2, hq3⟩ := hSw; go_simp; (try with_reducible rfl))
      rotate_left
      · simp only [Act.put, List.setIfInBounds_toArray, List.set_cons_zero, List.set_cons_succ]
        rfl
      refine wpAnyH_done (by kernel_rfl) ?_ _
      have HBZ := Lib.hid (bnext HB16.out hHeld.2.2)
      clear hHeld
      go_wp2
      go_ret
      exact ⟨rfl, HBZ.out⟩
    | false =>
      obtain rfl : y = sumNone := HRN.out (by simp)
      go_upto_region 14 with (first
        | (refine wpList_load_row rfl 29 (.tmp 11) rfl p11 rfl _ _ _ _ HNw12.out Try.underlying29 rfl (by rw [HZ2.out]; exact size_sec) ?_)
        | (go_at_call 41; go_must (refine (HR1 _).out.mono ?_; rintro e w13 ⟨v13, rfl, ho13, hb13⟩; obtain ⟨s13, c13, rfl⟩ := own_slice1 ho13; have HO13 := Lib.hid ho13; have HV13 := Lib.hid (old_heap HNw12.out hb13); have HB13 := Lib.hid (bnext HB12.out hb13); obtain ⟨F, hF⟩ : ∃ F, Smy.cells sumNone (.slice s13 (Smy.ents sumNone).length c13) = F := ⟨_, rfl⟩; have HSF : Hid (F.size = 6) := (by rw [← hF]; exact rfl); have H1F : Hid (F.all (·.oneCell') = true) := (by unfold Hid; rw [← hF]; exact sum_one _ _ _ _); have HEF := Lib.hid hF; rw [hF]; clear hF; clear ho13 hb13))
        | (refine wpList_store_row rfl 105 (.tmp 12) (.tmp 75) rfl w13.heap.size _ F 105 rfl rfl (heap_alloc_last _ _) (by rw [HSF.out]; exact infoSummary) (by rw [HSF.out]; rfl) H1F.out ?_))
      rw [World.setRow_alloc_new]
      have hNew := heap_alloc_last w13 (.cells F 105 (0, 0))
      have hbN : Below w13.heap.size w13 (w13.alloc (.cells F 105 (0, 0))) := (Below.refl _ _).alloc (Nat.le_refl _) _
      have hHV14 := old_heap HV13.out hbN
      have hHO14 := own_below HO13.out hbN
      have hHB14 := bnext HB13.out hbN
      clear hbN HV13 HO13 HB13
      revert hNew hHV14 hHO14 hHB14
      generalize w13.alloc (.cells F 105 (0, 0)) = w14
      generalize w13.heap.size = p13
      intro hNew hHV14 hHO14 hHB14
      have HNw14 := Lib.hid hNew
      have HV14 := Lib.hid hHV14
      have HO14 := Lib.hid hHO14
      have HB14 := Lib.hid hHB14
      clear hNew hHV14 hHO14 hHB14
      clear HNw12 HB12 HR1
      go_upto_region 15 with (first
        | (refine wpList_load_row rfl 29 (.tmp 11) rfl p11 rfl _ _ _ _ HV14.out Try.underlying29 rfl (by rw [HZ2.out]; exact size_sec) ?_)
        | (go_at_call 44; go_must (refine (HR2 _).out.mono ?_; rintro e w15 ⟨z, v15, rfl, hz, hb15, hv15⟩; have HE15 := Lib.hid (old_heap HNw14.out hb15); have HP15 := Lib.hid (own_below HO14.out hb15); have HB15 := Lib.hid (bnext HB14.out hb15); have HZ15 := Lib.hid HB15.out.size; obtain ⟨D, hD⟩ : ∃ D, z.cells v15 = D := ⟨_, rfl⟩; have HSD : Hid (D.size = 6) := (by rw [← hD]; exact rfl); have H1D : Hid (D.all (·.oneCell') = true) := (by unfold Hid; rw [← hD]; exact sum_oneV z v15 hv15); rw [hD]; clear hz hb15 hv15 hD))
        | (refine wpList_store_row rfl 101 (.tmp 13) (.tmp 80) rfl w15.heap.size _ D 101 rfl rfl (heap_alloc_last _ _) (by rw [HSD.out]; exact infoRSum) (by rw [HSD.out]; rfl) H1D.out ?_))
      rw [World.setRow_alloc_new]
      have hNew := heap_alloc_last w15 (.cells D 101 (0, 0))
      have hbN : Below w15.heap.size w15 (w15.alloc (.cells D 101 (0, 0))) := (Below.refl _ _).alloc (Nat.le_refl _) _
      have hHE15b := old_heap HE15.out hbN
      have hHP15b := own_below HP15.out hbN
      have hHB15b := bnext HB15.out hbN
      have hHZP := HZ15.out
      clear hbN HE15 HP15 HB15 HZ15
      revert hNew hHE15b hHP15b hHB15b hHZP
      generalize w15.alloc (.cells D 101 (0, 0)) = w15b
      generalize w15.heap.size = p15
      intro hNew hHE15b hHP15b hHB15b hHZP
      have HNw15b := Lib.hid hNew
      have HE15b := Lib.hid hHE15b
      have HP15b := Lib.hid hHP15b
      have HB15b := Lib.hid hHB15b
      have HZP := Lib.hid hHZP
      clear hNew hHE15b hHP15b hHB15b hHZP
      clear HNw14 HV14 HO14 HB14 HR2
      have HP13 := Lib.hid (show p15 ≠ p13 from fun e => by have h1 := HNw15b.out; have h2 := HE15b.out; rw [e] at h1; rw [h1] at h2; cases h2)
      go_upto_region 17 with (first
        | (refine wpList_build_at rfl 101 _ rfl [] (by simp) #[.int .u64 0, .int .u64 0, .bool false, .int .i64 0, .int .u32 0, .slice none 0 0] built_rsum ?_)
        | (refine wpList_store_row rfl 101 (.tmp 13) (.tmp 84) rfl p15 D #[.int .u64 0, .int .u64 0, .bool false, .int .i64 0, .int .u32 0, .slice none 0 0] 101 rfl rfl HNw15b.out infoRSum (by rw [HSD.out]; rfl) (by simp [Value.oneCell']) ?_))
      have hF := setRow_heap w15b p15 D #[.int .u64 0, .int .u64 0, .bool false, .int .i64 0, .int .u32 0, .slice none 0 0] 101 (0, 0) HNw15b.out
      have hE9 := (setRow_other w15b p15 p13 (#[.int .u64 0, .int .u64 0, .bool false, .int .i64 0, .int .u32 0, .slice none 0 0] : Array Value) (fun e => HP13.out e.symm)).trans HE15b.out
      have hP15l : w.heap.size ≤ p15 := HZP.out
      have hB := below_row (cs := #[.int .u64 0, .int .u64 0, .bool false, .int .i64 0, .int .u32 0, .slice none 0 0]) HB15b.out hP15l
      revert hF hE9 hB
      generalize w15b.setRow p15 #[.int .u64 0, .int .u64 0, .bool false, .int .i64 0, .int .u32 0, .slice none 0 0] = w16
      intro hF hE9 hB
      obtain ⟨D2, hD2⟩ : ∃ D2 : Array Value, #[.int .u64 0, .int .u64 0, .bool false, .int .i64 0, .int .u32 0, .slice none 0 0] = D2 := ⟨_, rfl⟩
      have HDE : Hid (Smy.cells sumNone (.slice none (Smy.ents sumNone).length 0) = D2) := Lib.hid hD2
      have HSD2 : Hid (D2.size = 6) := (by rw [← hD2]; exact rfl)
      rw [hD2] at hF
      have HNw16 := Lib.hid hF
      have HE16 := Lib.hid hE9
      have HB16 := Lib.hid hB
      have HRD13 : Hid (ReadAt w16 s13 Ent5.cells 4 (Smy.ents sumNone)) := Lib.hid (fun h => absurd rfl h)
      have HRD15 : Hid (ReadAt w16 none Ent5.cells 4 (Smy.ents sumNone)) := Lib.hid (fun h => absurd rfl h)
      clear hF hE9 hB hD2 HSD H1D HNw15b HE15b HB15b HP15b
      have hq1 : w16.rangeAt p13 0 F.toList := box_range HE16.out
      have hq2 : w16.rangeAt p15 0 D2.toList := box_range HNw16.out
      have HQ : Hid (w16.rangeAt p13 0 F.toList ∧ w16.rangeAt p15 0 D2.toList ∧ Below w16.heap.size w16 w16) := ⟨hq1, hq2, Below.refl _ _⟩
      have hsz : (Try.prog.info? 105).map (·.size) = some F.toList.length := by rw [Array.length_toList, HSF.out]; exact infoSummary
      have hsr : (Try.prog.info? 101).map (·.size) = some D2.toList.length := by rw [Array.length_toList, HSD2.out]; exact infoRSum
      have HTO := fun W hb => Lib.hid (told_any sumNone s13 c13 F HEF.out HLY.out w16 W HRD13.out hb)
      clear hq1 hq2 HE16 HNw16
      refine wp_region_held_drew (S := (fun w' => w'.rangeAt p13 0 F.toList ∧ w'.rangeAt p15 0 D2.toList ∧ Below w16.heap.size w16 w')) (by kernel_rfl) (by exact ⟨HQ.out.1, HQ.out.2.1, HQ.out.2.2.drew⟩) (fun hHeld => ?_)
      refine take1_ (i := 0) (v := .agg F) (a' := ?_) (some 85) #[true, false, false, false, false, false, false, false, false, false, false, false, false, false, false, false, false, false] rfl rfl (by kernel_rfl) (fun _ _ _ h => h) (yieldsIf_load_mid (by rfl) 105 (.tmp 12) rfl p13 0 rfl F.toList _ (fun w h => h.1) Try.underlying105 rfl hsz) hHeld ?_ ?_
      rotate_left
      · simp only [Act.put, List.setIfInBounds_toArray, List.set_cons_zero, List.set_cons_succ]
        rfl
      refine take1_ (i := 2) (v := .agg D2) (a' := ?_) (some 87) #[true, false, true, false, false, false, false, false, false, false, false, false, false, false, false, false, false, false] rfl rfl (by kernel_rfl) (fun _ _ _ h => h) (yieldsIf_load_mid (by rfl) 101 (.tmp 13) rfl p15 0 rfl D2.toList _ (fun w h => h.2.1) Try.underlying101 rfl hsr) hHeld ?_ ?_
      rotate_left
      · simp only [Act.put, List.setIfInBounds_toArray, List.set_cons_zero, List.set_cons_succ]
        rfl
      refine loud1_ (i := 1) (some 86) #[true, true, true, false, false, false, false, false, false, false, false, false, false, false, false, false, false, false] rfl rfl (by kernel_rfl) (fun K hK => ?_)
      go_simp
      (go_at_call 43; go_must (refine (HTO _ hHeld.2.2).out.mono ?_; rintro e w17 ⟨v17, rfl, ho17, hb17⟩; obtain ⟨s17, c17, rfl⟩ := own_slice1 ho17; have HO17 := Lib.hid (own_readS ho17 rfl).1; have hnx : w17.rangeAt p13 0 F.toList ∧ w17.rangeAt p15 0 D2.toList ∧ Below w16.heap.size w16 w17 := ⟨range_belowS hHeld.1 hb17, range_belowS hHeld.2.1 hb17, bnext hHeld.2.2 hb17⟩))
      refine hK.out _ _ (by exact hnx) (fun hHeld' => ?_)
      clear hK K hHeld
      have hHeld := hHeld'
      clear hHeld'
      try simp only [Act.put, List.setIfInBounds_toArray, List.set_cons_zero, List.set_cons_succ]
      refine loud1_ (i := 3) (some 88) #[true, true, true, true, false, false, false, false, false, false, false, false, false, false, false, false, false, false] rfl rfl (by kernel_rfl) (fun K hK => ?_)
      go_simp
      (go_at_call 42; go_must (refine (same_any sumNone s17 none c17 _ D2 HDE.out HLY.out _ HO17.out (HRD15.out.below Ent5.cells_len hHeld.2.2)).mono ?_; rintro e w18 ⟨rfl, hb18⟩; have hnx : w18.rangeAt p13 0 F.toList ∧ w18.rangeAt p15 0 D2.toList ∧ Below w16.heap.size w16 w18 := ⟨range_belowS hHeld.1 hb18, range_belowS hHeld.2.1 hb18, bnext hHeld.2.2 hb18⟩))
      refine hK.out _ _ (by exact hnx) (fun hHeld' => ?_)
      clear hK K hHeld
      have hHeld := hHeld'
      clear hHeld'
      try simp only [Act.put, List.setIfInBounds_toArray, List.set_cons_zero, List.set_cons_succ]
      refine take1_ (i := 4) (v := ?_) (a' := ?_) (some 89) #[true, true, true, true, true, false, false, false, false, false, false, false, false, false, false, false, false, false] rfl rfl (by kernel_rfl) (fun _ _ _ h => h) (Or.inl ⟨by rfl, ?_⟩) hHeld ?_ ?_
      rotate_left
      · (intro w hSw; (try dsimp only at hSw); obtain ⟨hq1, hq2, hq3⟩ := hSw; go_simp; (try with_reducible rfl))
      rotate_left
      · simp only [Act.put, List.setIfInBounds_toArray, List.set_cons_zero, List.set_cons_succ]
        rfl
      refine take1_ (i := 5) (v := ?_) (a' := ?_) (some 90) #[true, true, true, true, true, true, false, false, false, false, false, false, false, false, false, false, false, false] rfl rfl (by kernel_rfl) (fun _ _ _ h => h) (Or.inl ⟨by rfl, ?_⟩) hHeld ?_ ?_
      rotate_left
      · (intro w hSw; (try dsimp only at hSw); obtain ⟨hq1, hq2, hq3⟩ := hSw; go_simp; (try with_reducible rfl))
      rotate_left
      · simp only [Act.put, List.setIfInBounds_toArray, List.set_cons_zero, List.set_cons_succ]
        rfl
      refine take1_ (i := 6) (v := ?_) (a' := ?_) (some 91) #[true, true, true, true, true, true, true, false, false, false, false, false, false, false, false, false, false, false] rfl rfl (by kernel_rfl) (fun _ _ _ h => h) (Or.inl ⟨by rfl, ?_⟩) hHeld ?_ ?_
      rotate_left
      · (intro w hSw; (try dsimp only at hSw); obtain ⟨hq1, hq2, hq3⟩ := hSw; go_simp; (try with_reducible rfl))
      rotate_left
      · simp only [Act.put, List.setIfInBounds_toArray, List.set_cons_zero, List.set_cons_succ]
        rfl
      refine take1_ (i := 7) (v := ?_) (a' := ?_) (some 92) #[true, true, true, true, true, true, true, true, false, false, false, false, false, false, false, false, false, false] rfl rfl (by kernel_rfl) (fun _ _ _ h => h) (Or.inl ⟨by rfl, ?_⟩) hHeld ?_ ?_
      rotate_left
      · (intro w hSw; (try dsimp only at hSw); obtain ⟨hq1, hq2, hq3⟩ := hSw; go_simp; (try with_reducible rfl))
      rotate_left
      · simp only [Act.put, List.setIfInBounds_toArray, List.set_cons_zero, List.set_cons_succ]
        rfl
      refine take1_ (i := 8) (v := ?_) (a' := ?_) (some 93) #[true, true, true, true, true, true, true, true, true, false, false, false, false, false, false, false, false, false] rfl rfl (by kernel_rfl) (fun _ _ _ h => h) (Or.inl ⟨by rfl, ?_⟩) hHeld ?_ ?_
      rotate_left
      · (intro w hSw; (try dsimp only at hSw); obtain ⟨hq1, hq2, hq3⟩ := hSw; go_simp; (try with_reducible rfl))
      rotate_left
      · simp only [Act.put, List.setIfInBounds_toArray, List.set_cons_zero, List.set_cons_succ]
        rfl
      refine take1_ (i := 9) (v := ?_) (a' := ?_) (some 94) #[true, true, true, true, true, true, true, true, true, true, false, false, false, false, false, false, false, false] rfl rfl (by kernel_rfl) (fun _ _ _ h => h) (Or.inl ⟨by rfl, ?_⟩) hHeld ?_ ?_
      rotate_left
      · (intro w hSw; (try dsimp only at hSw); obtain ⟨hq1, hq2, hq3⟩ := hSw; go_simp; (try with_reducible rfl))
      rotate_left
      · simp only [Act.put, List.setIfInBounds_toArray, List.set_cons_zero, List.set_cons_succ]
        rfl
      refine take1_ (i := 10) (v := ?_) (a' := ?_) (some 95) #[true, true, true, true, true, true, true, true, true, true, true, false, false, false, false, false, false, false] rfl rfl (by kernel_rfl) (fun _ _ _ h => h) (Or.inl ⟨by rfl, ?_⟩) hHeld ?_ ?_
      rotate_left
      · (intro w hSw; (try dsimp only at hSw); obtain ⟨hq1, hq2, hq3⟩ := hSw; go_simp; (try with_reducible rfl))
      rotate_left
      · simp only [Act.put, List.setIfInBounds_toArray, List.set_cons_zero, List.set_cons_succ]
        rfl
      refine take1_ (i := 11) (v := ?_) (a' := ?_) (some 96) #[true, true, true, true, true, true, true, true, true, true, true, true, false, false, false, false, false, false] rfl rfl (by kernel_rfl) (fun _ _ _ h => h) (Or.inl ⟨by rfl, ?_⟩) hHeld ?_ ?_
      rotate_left
      · (intro w hSw; (try dsimp only at hSw); obtain ⟨hq1, hq2, hq3⟩ := hSw; go_simp; (try with_reducible rfl))
      rotate_left
      · simp only [Act.put, List.setIfInBounds_toArray, List.set_cons_zero, List.set_cons_succ]
        rfl
      refine take1_ (i := 12) (v := ?_) (a' := ?_) (some 97) #[true, true, true, true, true, true, true, true, true, true, true, true, true, false, false, false, false, false] rfl rfl (by kernel_rfl) (fun _ _ _ h => h) (Or.inl ⟨by rfl, ?_⟩) hHeld ?_ ?_
      rotate_left
      · (intro w hSw; (try dsimp only at hSw); obtain ⟨hq1, hq2, hq3⟩ := hSw; go_simp; (try with_reducible rfl))
      rotate_left
      · simp only [Act.put, List.setIfInBounds_toArray, List.set_cons_zero, List.set_cons_succ]
        rfl
      refine take1_ (i := 13) (v := ?_) (a' := ?_) (some 98) #[true, true, true, true, true, true, true, true, true, true, true, true, true, true, false, false, false, false] rfl rfl (by kernel_rfl) (fun _ _ _ h => h) (Or.inl ⟨by rfl, ?_⟩) hHeld ?_ ?_
      rotate_left
      · (intro w hSw; (try dsimp only at hSw); obtain ⟨hq1, hq2, hq3⟩ := hSw; go_simp; (try with_reducible rfl))
      rotate_left
      · simp only [Act.put, List.setIfInBounds_toArray, List.set_cons_zero, List.set_cons_succ]
        rfl
      refine take1_ (i := 14) (v := ?_) (a' := ?_) (some 99) #[true, true, true, true, true, true, true, true, true, true, true, true, true, true, true, false, false, false] rfl rfl (by kernel_rfl) (fun _ _ _ h => h) (Or.inl ⟨by rfl, ?_⟩) hHeld ?_ ?_
      rotate_left
      · (intro w hSw; (try dsimp only at hSw); obtain ⟨hq1, hq2, hq3⟩ := hSw; go_simp; (try with_reducible rfl))
      rotate_left
      · simp only [Act.put, List.setIfInBounds_toArray, List.set_cons_zero, List.set_cons_succ]
        rfl
      refine take1_ (i := 15) (v := ?_) (a' := ?_) (some 100) #[true, true, true, true, true, true, true, true, true, true, true, true, true, true, true, true, false, false] rfl rfl (by kernel_rfl) (fun _ _ _ h => h) (Or.inl ⟨by rfl, ?_⟩) hHeld ?_ ?_
      rotate_left
      · (intro w hSw; (try dsimp only at hSw); obtain ⟨hq1, hq2, hq3⟩ := hSw; go_simp; (try with_reducible rfl))
      rotate_left
      · simp only [Act.put, List.setIfInBounds_toArray, List.set_cons_zero, List.set_cons_succ]
        rfl
      refine take1_ (i := 16) (v := ?_) (a' := ?_) (some 101) #[true, true, true, true, true, true, true, true, true, true, true, true, true, true, true, true, true, false] rfl rfl (by kernel_rfl) (fun _ _ _ h => h) (Or.inl ⟨by rfl, ?_⟩) hHeld ?_ ?_
      rotate_left
      · (intro w hSw; (try dsimp only at hSw); obtain ⟨hq1, hq2, hq3⟩ := hSw; go_simp; (try with_reducible rfl))
      rotate_left
      · simp only [Act.put, List.setIfInBounds_toArray, List.set_cons_zero, List.set_cons_succ]
        rfl
      refine take1_ (i := 17) (v := ?_) (a' := ?_) (some 4) #[true, true, true, true, true, true, true, true, true, true, true, true, true, true, true, true, true, true] rfl rfl (by kernel_rfl) (fun _ _ _ h => h) (Or.inl ⟨by rfl, ?_⟩) hHeld ?_ ?_
      rotate_left
      · (intro w hSw; (try dsimp only at hSw); obtain ⟨hq1, hq2, hq3⟩ := hSw; go_simp; (try with_reducible rfl))
      rotate_left
      · simp only [Act.put, List.setIfInBounds_toArray, List.set_cons_zero, List.set_cons_succ]
        rfl
      refine wpAnyH_done (by kernel_rfl) ?_ _
      have HBZ := Lib.hid (bnext HB16.out hHeld.2.2)
      clear hHeld
      go_wp2
      go_ret
      exact ⟨rfl, HBZ.out⟩
  | false =>
    have he0 : okES false = 1 := rfl
    rw [he0]
    clear he0
    have HRI1 : ∀ W, Hid (Calls Try.prog 41 #[.agg (bvs S).toArray] W fun e w' => ∃ v', e = .returned (.tuple #[.agg ((sumX S).cells v'), .int .i64 (if sumOk S then 0 else 21)]) ∧ w'.ownsRow W.heap.size 163 4 v' (sumX S).ents.length (rowsOf Ent5.cells (sumX S).ents) ∧ Below W.heap.size W w') := fun W => HRI S HSL.out W
    obtain ⟨N9, hN9⟩ : ∃ N9 : Int, (if sumOk S then 0 else 21) = N9 := ⟨_, rfl⟩
    obtain ⟨xs, hxs⟩ : ∃ xs, sumX S = xs := ⟨_, rfl⟩
    simp only [hN9, hxs] at HRI1
    clear hN9 hxs
    go_upto_region 10 with (first
      | (refine wpList_load_row rfl 29 (.tmp 5) rfl p5 rfl _ _ _ _ HT7.out Try.underlying29 rfl (by rw [HSZ.out]; exact size_sec) ?_)
      | (refine wpList_load_row rfl 28 (.tmp 7) rfl p7 rfl _ _ _ _ HNw7.out Try.underlying28 rfl (by rw [HSZ.out]; exact size_arr) ?_)
      | (go_at_call 41; go_must (refine (HRI1 _).out.mono ?_; rintro e w8 ⟨v8, rfl, ho8, hb8⟩; obtain ⟨s8, c8, rfl⟩ := own_slice1 ho8; have HO8 := Lib.hid ho8; have HG8 := Lib.hid (old_heap HG7.out hb8); have HT8 := Lib.hid (old_heap HT7.out hb8); have HB8 := Lib.hid (bnext HB7.out hb8); obtain ⟨E, hE⟩ : ∃ E, xs.cells (.slice s8 xs.ents.length c8) = E := ⟨_, rfl⟩; have HSE : Hid (E.size = 6) := (by rw [← hE]; exact rfl); have H1E : Hid (E.all (·.oneCell') = true) := (by unfold Hid; rw [← hE]; exact sum_one _ _ _ _); have HEE := Lib.hid hE; rw [hE]; clear hE; clear ho8 hb8))
      | (refine wpList_store_row rfl 105 (.tmp 9) (.tmp 55) rfl w8.heap.size _ E 105 rfl rfl (heap_alloc_last _ _) (by rw [HSE.out]; exact infoSummary) (by rw [HSE.out]; rfl) H1E.out ?_))
    rw [World.setRow_alloc_new]
    have hNew := heap_alloc_last w8 (.cells E 105 (0, 0))
    have hbN : Below w8.heap.size w8 (w8.alloc (.cells E 105 (0, 0))) := (Below.refl _ _).alloc (Nat.le_refl _) _
    have hHG9 := old_heap HG8.out hbN
    have hHT9 := old_heap HT8.out hbN
    have hHO9 := own_below HO8.out hbN
    have hHB9 := bnext HB8.out hbN
    clear hbN HG8 HT8 HO8 HB8
    revert hNew hHG9 hHT9 hHO9 hHB9
    generalize w8.alloc (.cells E 105 (0, 0)) = w9
    generalize w8.heap.size = p8
    intro hNew hHG9 hHT9 hHO9 hHB9
    have HNw9 := Lib.hid hNew
    have HG9 := Lib.hid hHG9
    have HT9 := Lib.hid hHT9
    have HO9 := Lib.hid hHO9
    have HB9 := Lib.hid hHB9
    clear hNew hHG9 hHT9 hHO9 hHB9
    clear HG7 HT7 HNw7 HB7
    go_quiet (fail)
    rename_i nq
    have HT10 : Hid ((w9.drewN nq).heap[p5]? = some (.cells (bvs S).toArray 29 (0, 0))) := HT9
    have HB10 : Hid (Below w.heap.size w (w9.drewN nq)) := Lib.hid (bdrewN HB9.out nq)
    clear HNw9 HG9 HT9 HB9 HO9 HRI1
    revert HT10 HB10
    generalize w9.drewN nq = w10
    intro HT10 HB10
    have HTU' := Lib.hid (HTU _ HB10.out)
    unfold SomeS at HTU'
    go_upto_region 13 with (first
      | (refine wpList_load_row rfl 29 (.tmp 5) rfl p5 rfl _ _ _ _ HT10.out Try.underlying29 rfl (by rw [HSZ.out]; exact size_sec) ?_)
      | (go_at_call 15; go_must (refine HTU'.out.mono ?_; rintro e w11 ⟨l2, hl2, rfl, hb11⟩; unfold secV; have HL2 := Lib.hid hl2; have HZ2 : Hid ((bvs l2).toArray.size = 128) := Lib.hid (by rw [secV_size, hl2]); have HB11 := Lib.hid (bnext HB10.out hb11); clear hb11 hl2))
      | (refine wpList_store_row rfl 29 (.tmp 11) (.tmp 71) rfl w11.heap.size zArr (bvs l2).toArray 29 rfl rfl (heap_alloc_last _ _) (by rw [HZ2.out]; exact size_sec) (by rw [HZ2.out, zArr_size]) (sec_one _) ?_))
    rw [World.setRow_alloc_new]
    have hNew := heap_alloc_last w11 (.cells (bvs l2).toArray 29 (0, 0))
    have hbN : Below w11.heap.size w11 (w11.alloc (.cells (bvs l2).toArray 29 (0, 0))) := (Below.refl _ _).alloc (Nat.le_refl _) _
    have hHB12 := bnext HB11.out hbN
    clear hbN HB11
    revert hNew hHB12
    generalize w11.alloc (.cells (bvs l2).toArray 29 (0, 0)) = w12
    generalize w11.heap.size = p11
    intro hNew hHB12
    have HNw12 := Lib.hid hNew
    have HB12 := Lib.hid hHB12
    clear hNew hHB12
    clear HTU' HTU HT10 HB10
    have HR1 := fun W => HRI l2 HL2.out W
    have HR2 := fun W => HRR l2 HL2.out W
    unfold RlSum at HR1
    unfold RrSum at HR2
    have hrx := sumX_ref l2
    have hrn : sumOk l2 = false → sumX l2 = sumNone := fun h => by unfold sumX; rw [h]; rfl
    have hxk := sumRdX_ok l2
    simp only [← sumOk_ref] at HR2
    obtain ⟨okT, hokT⟩ : ∃ okT, sumOk l2 = okT := ⟨_, rfl⟩
    have hlen : (sumX l2).ents.length ≤ 1000 := by unfold sumX; split; exact hxk.len; decide
    obtain ⟨y, hy⟩ : ∃ y, sumX l2 = y := ⟨_, rfl⟩
    simp only [hokT, hy] at HR1 HR2 hrx hrn hlen
    clear hxk HRI HRR hokT hy
    have HLY := Lib.hid hlen
    have HRX := Lib.hid hrx
    have HRN := Lib.hid hrn
    clear hlen hrx hrn
    cases okT with
    | true =>
      go_upto_region 14 with (first
        | (refine wpList_load_row rfl 29 (.tmp 11) rfl p11 rfl _ _ _ _ HNw12.out Try.underlying29 rfl (by rw [HZ2.out]; exact size_sec) ?_)
        | (go_at_call 41; go_must (refine (HR1 _).out.mono ?_; rintro e w13 ⟨v13, rfl, ho13, hb13⟩; obtain ⟨s13, c13, rfl⟩ := own_slice1 ho13; have HO13 := Lib.hid ho13; have HV13 := Lib.hid (old_heap HNw12.out hb13); have HB13 := Lib.hid (bnext HB12.out hb13); obtain ⟨F, hF⟩ : ∃ F, Smy.cells y (.slice s13 (Smy.ents y).length c13) = F := ⟨_, rfl⟩; have HSF : Hid (F.size = 6) := (by rw [← hF]; exact rfl); have H1F : Hid (F.all (·.oneCell') = true) := (by unfold Hid; rw [← hF]; exact sum_one _ _ _ _); have HEF := Lib.hid hF; rw [hF]; clear hF; clear ho13 hb13))
        | (refine wpList_store_row rfl 105 (.tmp 12) (.tmp 75) rfl w13.heap.size _ F 105 rfl rfl (heap_alloc_last _ _) (by rw [HSF.out]; exact infoSummary) (by rw [HSF.out]; rfl) H1F.out ?_))
      rw [World.setRow_alloc_new]
      have hNew := heap_alloc_last w13 (.cells F 105 (0, 0))
      have hbN : Below w13.heap.size w13 (w13.alloc (.cells F 105 (0, 0))) := (Below.refl _ _).alloc (Nat.le_refl _) _
      have hHV14 := old_heap HV13.out hbN
      have hHO14 := own_below HO13.out hbN
      have hHB14 := bnext HB13.out hbN
      clear hbN HV13 HO13 HB13
      revert hNew hHV14 hHO14 hHB14
      generalize w13.alloc (.cells F 105 (0, 0)) = w14
      generalize w13.heap.size = p13
      intro hNew hHV14 hHO14 hHB14
      have HNw14 := Lib.hid hNew
      have HV14 := Lib.hid hHV14
      have HO14 := Lib.hid hHO14
      have HB14 := Lib.hid hHB14
      clear hNew hHV14 hHO14 hHB14
      clear HNw12 HB12 HR1
      go_upto_region 17 with (first
        | (refine wpList_load_row rfl 29 (.tmp 11) rfl p11 rfl _ _ _ _ HV14.out Try.underlying29 rfl (by rw [HZ2.out]; exact size_sec) ?_)
        | (go_at_call 44; go_must (refine (HR2 _).out.mono ?_; rintro e w15 ⟨z, v15, rfl, hz, hb15, hv15⟩; obtain ⟨hz1, hz2⟩ := hz (by simp); rw [← HRX.out (by simp)] at hz1; subst hz1; obtain ⟨s15, c15, rfl⟩ := own_slice1 hz2; have HO15 := Lib.hid hz2; have HE15 := Lib.hid (old_heap HNw14.out hb15); have HP15 := Lib.hid (own_below HO14.out hb15); have HB15 := Lib.hid (bnext HB14.out hb15); obtain ⟨D, hD⟩ : ∃ D, z.cells (.slice s15 z.ents.length c15) = D := ⟨_, rfl⟩; have HSD : Hid (D.size = 6) := (by rw [← hD]; exact rfl); have H1D : Hid (D.all (·.oneCell') = true) := (by unfold Hid; rw [← hD]; exact sum_one _ _ _ _); have HED := Lib.hid hD; rw [hD]; clear hD; clear hz hz2 hb15 hv15))
        | (refine wpList_store_row rfl 101 (.tmp 13) (.tmp 80) rfl w15.heap.size _ D 101 rfl rfl (heap_alloc_last _ _) (by rw [HSD.out]; exact infoRSum) (by rw [HSD.out]; rfl) H1D.out ?_))
      rw [World.setRow_alloc_new]
      have hNew := heap_alloc_last w15 (.cells D 101 (0, 0))
      have hbN : Below w15.heap.size w15 (w15.alloc (.cells D 101 (0, 0))) := (Below.refl _ _).alloc (Nat.le_refl _) _
      have hHE16 := old_heap HE15.out hbN
      have hHP16 := own_below HP15.out hbN
      have hHO16 := own_below HO15.out hbN
      have hHB16 := bnext HB15.out hbN
      clear hbN HE15 HP15 HO15 HB15
      revert hNew hHE16 hHP16 hHO16 hHB16
      generalize w15.alloc (.cells D 101 (0, 0)) = w16
      generalize w15.heap.size = p15
      intro hNew hHE16 hHP16 hHO16 hHB16
      have HNw16 := Lib.hid hNew
      have HE16 := Lib.hid hHE16
      have HP16 := Lib.hid hHP16
      have HO16 := Lib.hid hHO16
      have HB16 := Lib.hid hHB16
      clear hNew hHE16 hHP16 hHO16 hHB16
      clear HNw14 HV14 HO14 HB14 HR2
      have hrd13 := (own_readS HP16.out rfl).1
      have hrd15 := (own_readS HO16.out rfl).1
      have HRD13 := Lib.hid hrd13
      have HRD15 := Lib.hid hrd15
      clear hrd13 hrd15
      have hq1 : w16.rangeAt p13 0 F.toList := box_range HE16.out
      have hq2 : w16.rangeAt p15 0 D.toList := box_range HNw16.out
      have HQ : Hid (w16.rangeAt p13 0 F.toList ∧ w16.rangeAt p15 0 D.toList ∧ Below w16.heap.size w16 w16) := ⟨hq1, hq2, Below.refl _ _⟩
      have hsz : (Try.prog.info? 105).map (·.size) = some F.toList.length := by rw [Array.length_toList, HSF.out]; exact infoSummary
      have hsr : (Try.prog.info? 101).map (·.size) = some D.toList.length := by rw [Array.length_toList, HSD.out]; exact infoRSum
      have HTO := fun W hb => Lib.hid (told_any z s13 c13 F HEF.out HLY.out w16 W HRD13.out hb)
      clear hq1 hq2 HE16 HNw16
      refine wp_region_held_drew (S := (fun w' => w'.rangeAt p13 0 F.toList ∧ w'.rangeAt p15 0 D.toList ∧ Below w16.heap.size w16 w')) (by kernel_rfl) (by exact ⟨HQ.out.1, HQ.out.2.1, HQ.out.2.2.drew⟩) (fun hHeld => ?_)
      refine take1_ (i := 0) (v := .agg F) (a' := ?_) (some 85) #[true, false, false, false, false, false, false, false, false, false, false, false, false, false, false, false, false, false] rfl rfl (by kernel_rfl) (fun _ _ _ h => h) (yieldsIf_load_mid (by rfl) 105 (.tmp 12) rfl p13 0 rfl F.toList _ (fun w h => h.1) Try.underlying105 rfl hsz) hHeld ?_ ?_
      rotate_left
      · simp only [Act.put, List.setIfInBounds_toArray, List.set_cons_zero, List.set_cons_succ]
        rfl
      refine take1_ (i := 2) (v := .agg D) (a' := ?_) (some 87) #[true, false, true, false, false, false, false, false, false, false, false, false, false, false, false, false, false, false] rfl rfl (by kernel_rfl) (fun _ _ _ h => h) (yieldsIf_load_mid (by rfl) 101 (.tmp 13) rfl p15 0 rfl D.toList _ (fun w h => h.2.1) Try.underlying101 rfl hsr) hHeld ?_ ?_
      rotate_left
      · simp only [Act.put, List.setIfInBounds_toArray, List.set_cons_zero, List.set_cons_succ]
        rfl
      refine loud1_ (i := 1) (some 86) #[true, true, true, false, false, false, false, false, false, false, false, false, false, false, false, false, false, false] rfl rfl (by kernel_rfl) (fun K hK => ?_)
      go_simp
      (go_at_call 43; go_must (refine (HTO _ hHeld.2.2).out.mono ?_; rintro e w17 ⟨v17, rfl, ho17, hb17⟩; obtain ⟨s17, c17, rfl⟩ := own_slice1 ho17; have HO17 := Lib.hid (own_readS ho17 rfl).1; have hnx : w17.rangeAt p13 0 F.toList ∧ w17.rangeAt p15 0 D.toList ∧ Below w16.heap.size w16 w17 := ⟨range_belowS hHeld.1 hb17, range_belowS hHeld.2.1 hb17, bnext hHeld.2.2 hb17⟩))
      refine hK.out _ _ (by exact hnx) (fun hHeld' => ?_)
      clear hK K hHeld
      have hHeld := hHeld'
      clear hHeld'
      try simp only [Act.put, List.setIfInBounds_toArray, List.set_cons_zero, List.set_cons_succ]
      refine loud1_ (i := 3) (some 88) #[true, true, true, true, false, false, false, false, false, false, false, false, false, false, false, false, false, false] rfl rfl (by kernel_rfl) (fun K hK => ?_)
      go_simp
      (go_at_call 42; go_must (refine (same_any z s17 s15 c17 _ D HED.out HLY.out _ HO17.out (HRD15.out.below Ent5.cells_len hHeld.2.2)).mono ?_; rintro e w18 ⟨rfl, hb18⟩; have hnx : w18.rangeAt p13 0 F.toList ∧ w18.rangeAt p15 0 D.toList ∧ Below w16.heap.size w16 w18 := ⟨range_belowS hHeld.1 hb18, range_belowS hHeld.2.1 hb18, bnext hHeld.2.2 hb18⟩))
      refine hK.out _ _ (by exact hnx) (fun hHeld' => ?_)
      clear hK K hHeld
      have hHeld := hHeld'
      clear hHeld'
      try simp only [Act.put, List.setIfInBounds_toArray, List.set_cons_zero, List.set_cons_succ]
      refine take1_ (i := 4) (v := ?_) (a' := ?_) (some 89) #[true, true, true, true, true, false, false, false, false, false, false, false, false, false, false, false, false, false] rfl rfl (by kernel_rfl) (fun _ _ _ h => h) (Or.inl ⟨by rfl, ?_⟩) hHeld ?_ ?_
      rotate_left
      · (intro w hSw; (try dsimp only at hSw); obtain ⟨hq1, hq2, hq3⟩ := hSw; go_simp; (try with_reducible rfl))
      rotate_left
      · simp only [Act.put, List.setIfInBounds_toArray, List.set_cons_zero, List.set_cons_succ]
        rfl
      refine take1_ (i := 5) (v := ?_) (a' := ?_) (some 90) #[true, true, true, true, true, true, false, false, false, false, false, false, false, false, false, false, false, false] rfl rfl (by kernel_rfl) (fun _ _ _ h => h) (Or.inl ⟨by rfl, ?_⟩) hHeld ?_ ?_
      rotate_left
      · (intro w hSw; (try dsimp only at hSw); obtain ⟨hq1, hq2, hq3⟩ := hSw; go_simp; (try with_reducible rfl))
      rotate_left
      · simp only [Act.put, List.setIfInBounds_toArray, List.set_cons_zero, List.set_cons_succ]
        rfl
      refine take1_ (i := 6) (v := ?_) (a' := ?_) (some 91) #[true, true, true, true, true, true, true, false, false, false, false, false, false, false, false, false, false, false] rfl rfl (by kernel_rfl) (fun _ _ _ h => h) (Or.inl ⟨by rfl, ?_⟩) hHeld ?_ ?_
      rotate_left
      · (intro w hSw; (try dsimp only at hSw); obtain ⟨hq1, hq2, hq3⟩ := hSw; go_simp; (try with_reducible rfl))
      rotate_left
      · simp only [Act.put, List.setIfInBounds_toArray, List.set_cons_zero, List.set_cons_succ]
        rfl
      refine take1_ (i := 7) (v := ?_) (a' := ?_) (some 92) #[true, true, true, true, true, true, true, true, false, false, false, false, false, false, false, false, false, false] rfl rfl (by kernel_rfl) (fun _ _ _ h => h) (Or.inl ⟨by rfl, ?_⟩) hHeld ?_ ?_
      rotate_left
      · (intro w hSw; (try dsimp only at hSw); obtain ⟨hq1, hq2, hq3⟩ := hSw; go_simp; (try with_reducible rfl))
      rotate_left
      · simp only [Act.put, List.setIfInBounds_toArray, List.set_cons_zero, List.set_cons_succ]
        rfl
      refine take1_ (i := 8) (v := ?_) (a' := ?_) (some 93) #[true, true, true, true, true, true, true, true, true, false, false, false, false, false, false, false, false, false] rfl rfl (by kernel_rfl) (fun _ _ _ h => h) (Or.inl ⟨by rfl, ?_⟩) hHeld ?_ ?_
      rotate_left
      · (intro w hSw; (try dsimp only at hSw); obtain ⟨hq1, hq2, hq3⟩ := hSw; go_simp; (try with_reducible rfl))
      rotate_left
      · simp only [Act.put, List.setIfInBounds_toArray, List.set_cons_zero, List.set_cons_succ]
        rfl
      refine take1_ (i := 9) (v := ?_) (a' := ?_) (some 94) #[true, true, true, true, true, true, true, true, true, true, false, false, false, false, false, false, false, false] rfl rfl (by kernel_rfl) (fun _ _ _ h => h) (Or.inl ⟨by rfl, ?_⟩) hHeld ?_ ?_
      rotate_left
      · (intro w hSw; (try dsimp only at hSw); obtain ⟨hq1, hq2, hq3⟩ := hSw; go_simp; (try with_reducible rfl))
      rotate_left
      · simp only [Act.put, List.setIfInBounds_toArray, List.set_cons_zero, List.set_cons_succ]
        rfl
      refine take1_ (i := 10) (v := ?_) (a' := ?_) (some 95) #[true, true, true, true, true, true, true, true, true, true, true, false, false, false, false, false, false, false] rfl rfl (by kernel_rfl) (fun _ _ _ h => h) (Or.inl ⟨by rfl, ?_⟩) hHeld ?_ ?_
      rotate_left
      · (intro w hSw; (try dsimp only at hSw); obtain ⟨hq1, hq2, hq3⟩ := hSw; go_simp; (try with_reducible rfl))
      rotate_left
      · simp only [Act.put, List.setIfInBounds_toArray, List.set_cons_zero, List.set_cons_succ]
        rfl
      refine take1_ (i := 11) (v := ?_) (a' := ?_) (some 96) #[true, true, true, true, true, true, true, true, true, true, true, true, false, false, false, false, false, false] rfl rfl (by kernel_rfl) (fun _ _ _ h => h) (Or.inl ⟨by rfl, ?_⟩) hHeld ?_ ?_
      rotate_left
      · (intro w hSw; (try dsimp only at hSw); obtain ⟨hq1, hq2, hq3⟩ := hSw; go_simp; (try with_reducible rfl))
      rotate_left
      · simp only [Act.put, List.setIfInBounds_toArray, List.set_cons_zero, List.set_cons_succ]
        rfl
      refine take1_ (i := 12) (v := ?_) (a' := ?_) (some 97) #[true, true, true, true, true, true, true, true, true, true, true, true, true, false, false, false, false, false] rfl rfl (by kernel_rfl) (fun _ _ _ h => h) (Or.inl ⟨by rfl, ?_⟩) hHeld ?_ ?_
      rotate_left
      · (intro w hSw; (try dsimp only at hSw); obtain ⟨hq1, hq2, hq3⟩ := hSw; go_simp; (try with_reducible rfl))
      rotate_left
      · simp only [Act.put, List.setIfInBounds_toArray, List.set_cons_zero, List.set_cons_succ]
        rfl
      refine off_ (by kernel_rfl) (fun _ _ d _ _ h => by cases d <;> exact h) hHeld [13, 14] [some 98, some 99] [(97, some true)] #[true, true, true, true, true, true, true, true, true, true, true, true, true, true, true, false, false, false] 3 rfl (by kernel_rfl) (by repeat (first | exact trivial | refine ⟨by rfl, ?_⟩)) (a' := ?_) ?_ ?_
      rotate_left
      · simp only [putOff, Act.put, List.setIfInBounds_toArray, List.set_cons_zero, List.set_cons_succ]
        rfl
      refine take1_ (i := 15) (v := ?_) (a' := ?_) (some 100) #[true, true, true, true, true, true, true, true, true, true, true, true, true, true, true, true, false, false] rfl rfl (by kernel_rfl) (fun _ _ _ h => h) (Or.inl ⟨by rfl, ?_⟩) hHeld ?_ ?_
      rotate_left
      · (intro w hSw; (try dsimp only at hSw); obtain ⟨hq1, hq2, hq3⟩ := hSw; go_simp; (try with_reducible rfl))
      rotate_left
      · simp only [Act.put, List.setIfInBounds_toArray, List.set_cons_zero, List.set_cons_succ]
        rfl
      refine take1_ (i := 16) (v := ?_) (a' := ?_) (some 101) #[true, true, true, true, true, true, true, true, true, true, true, true, true, true, true, true, true, false] rfl rfl (by kernel_rfl) (fun _ _ _ h => h) (Or.inl ⟨by rfl, ?_⟩) hHeld ?_ ?_
      rotate_left
      · (intro w hSw; (try dsimp only at hSw); obtain ⟨hq1, hq2, hq3⟩ := hSw; go_simp; (try with_reducible rfl))
      rotate_left
      · simp only [Act.put, List.setIfInBounds_toArray, List.set_cons_zero, List.set_cons_succ]
        rfl
      refine take1_ (i := 17) (v := ?_) (a' := ?_) (some 4) #[true, true, true, true, true, true, true, true, true, true, true, true, true, true, true, true, true, true] rfl rfl (by kernel_rfl) (fun _ _ _ h => h) (Or.inl ⟨by rfl, ?_⟩) hHeld ?_ ?_
      rotate_left
      · (intro w hSw; (try dsimp only at hSw); obtain ⟨hq1, hq2, hq3⟩ := hSw; go_simp; (try with_reducible rfl))
      rotate_left
      · simp only [Act.put, List.setIfInBounds_toArray, List.set_cons_zero, List.set_cons_succ]
        rfl
      refine wpAnyH_done (by kernel_rfl) ?_ _
      have HBZ := Lib.hid (bnext HB16.out hHeld.2.2)
      clear hHeld
      go_wp2
      go_ret
      exact ⟨rfl, HBZ.out⟩
    | false =>
      obtain rfl : y = sumNone := HRN.out (by simp)
      go_upto_region 14 with (first
        | (refine wpList_load_row rfl 29 (.tmp 11) rfl p11 rfl _ _ _ _ HNw12.out Try.underlying29 rfl (by rw [HZ2.out]; exact size_sec) ?_)
        | (go_at_call 41; go_must (refine (HR1 _).out.mono ?_; rintro e w13 ⟨v13, rfl, ho13, hb13⟩; obtain ⟨s13, c13, rfl⟩ := own_slice1 ho13; have HO13 := Lib.hid ho13; have HV13 := Lib.hid (old_heap HNw12.out hb13); have HB13 := Lib.hid (bnext HB12.out hb13); obtain ⟨F, hF⟩ : ∃ F, Smy.cells sumNone (.slice s13 (Smy.ents sumNone).length c13) = F := ⟨_, rfl⟩; have HSF : Hid (F.size = 6) := (by rw [← hF]; exact rfl); have H1F : Hid (F.all (·.oneCell') = true) := (by unfold Hid; rw [← hF]; exact sum_one _ _ _ _); have HEF := Lib.hid hF; rw [hF]; clear hF; clear ho13 hb13))
        | (refine wpList_store_row rfl 105 (.tmp 12) (.tmp 75) rfl w13.heap.size _ F 105 rfl rfl (heap_alloc_last _ _) (by rw [HSF.out]; exact infoSummary) (by rw [HSF.out]; rfl) H1F.out ?_))
      rw [World.setRow_alloc_new]
      have hNew := heap_alloc_last w13 (.cells F 105 (0, 0))
      have hbN : Below w13.heap.size w13 (w13.alloc (.cells F 105 (0, 0))) := (Below.refl _ _).alloc (Nat.le_refl _) _
      have hHV14 := old_heap HV13.out hbN
      have hHO14 := own_below HO13.out hbN
      have hHB14 := bnext HB13.out hbN
      clear hbN HV13 HO13 HB13
      revert hNew hHV14 hHO14 hHB14
      generalize w13.alloc (.cells F 105 (0, 0)) = w14
      generalize w13.heap.size = p13
      intro hNew hHV14 hHO14 hHB14
      have HNw14 := Lib.hid hNew
      have HV14 := Lib.hid hHV14
      have HO14 := Lib.hid hHO14
      have HB14 := Lib.hid hHB14
      clear hNew hHV14 hHO14 hHB14
      clear HNw12 HB12 HR1
      go_upto_region 15 with (first
        | (refine wpList_load_row rfl 29 (.tmp 11) rfl p11 rfl _ _ _ _ HV14.out Try.underlying29 rfl (by rw [HZ2.out]; exact size_sec) ?_)
        | (go_at_call 44; go_must (refine (HR2 _).out.mono ?_; rintro e w15 ⟨z, v15, rfl, hz, hb15, hv15⟩; have HE15 := Lib.hid (old_heap HNw14.out hb15); have HP15 := Lib.hid (own_below HO14.out hb15); have HB15 := Lib.hid (bnext HB14.out hb15); have HZ15 := Lib.hid HB15.out.size; obtain ⟨D, hD⟩ : ∃ D, z.cells v15 = D := ⟨_, rfl⟩; have HSD : Hid (D.size = 6) := (by rw [← hD]; exact rfl); have H1D : Hid (D.all (·.oneCell') = true) := (by unfold Hid; rw [← hD]; exact sum_oneV z v15 hv15); rw [hD]; clear hz hb15 hv15 hD))
        | (refine wpList_store_row rfl 101 (.tmp 13) (.tmp 80) rfl w15.heap.size _ D 101 rfl rfl (heap_alloc_last _ _) (by rw [HSD.out]; exact infoRSum) (by rw [HSD.out]; rfl) H1D.out ?_))
      rw [World.setRow_alloc_new]
      have hNew := heap_alloc_last w15 (.cells D 101 (0, 0))
      have hbN : Below w15.heap.size w15 (w15.alloc (.cells D 101 (0, 0))) := (Below.refl _ _).alloc (Nat.le_refl _) _
      have hHE15b := old_heap HE15.out hbN
      have hHP15b := own_below HP15.out hbN
      have hHB15b := bnext HB15.out hbN
      have hHZP := HZ15.out
      clear hbN HE15 HP15 HB15 HZ15
      revert hNew hHE15b hHP15b hHB15b hHZP
      generalize w15.alloc (.cells D 101 (0, 0)) = w15b
      generalize w15.heap.size = p15
      intro hNew hHE15b hHP15b hHB15b hHZP
      have HNw15b := Lib.hid hNew
      have HE15b := Lib.hid hHE15b
      have HP15b := Lib.hid hHP15b
      have HB15b := Lib.hid hHB15b
      have HZP := Lib.hid hHZP
      clear hNew hHE15b hHP15b hHB15b hHZP
      clear HNw14 HV14 HO14 HB14 HR2
      have HP13 := Lib.hid (show p15 ≠ p13 from fun e => by have h1 := HNw15b.out; have h2 := HE15b.out; rw [e] at h1; rw [h1] at h2; cases h2)
      go_upto_region 17 with (first
        | (refine wpList_build_at rfl 101 _ rfl [] (by simp) #[.int .u64 0, .int .u64 0, .bool false, .int .i64 0, .int .u32 0, .slice none 0 0] built_rsum ?_)
        | (refine wpList_store_row rfl 101 (.tmp 13) (.tmp 84) rfl p15 D #[.int .u64 0, .int .u64 0, .bool false, .int .i64 0, .int .u32 0, .slice none 0 0] 101 rfl rfl HNw15b.out infoRSum (by rw [HSD.out]; rfl) (by simp [Value.oneCell']) ?_))
      have hF := setRow_heap w15b p15 D #[.int .u64 0, .int .u64 0, .bool false, .int .i64 0, .int .u32 0, .slice none 0 0] 101 (0, 0) HNw15b.out
      have hE9 := (setRow_other w15b p15 p13 (#[.int .u64 0, .int .u64 0, .bool false, .int .i64 0, .int .u32 0, .slice none 0 0] : Array Value) (fun e => HP13.out e.symm)).trans HE15b.out
      have hP15l : w.heap.size ≤ p15 := HZP.out
      have hB := below_row (cs := #[.int .u64 0, .int .u64 0, .bool false, .int .i64 0, .int .u32 0, .slice none 0 0]) HB15b.out hP15l
      revert hF hE9 hB
      generalize w15b.setRow p15 #[.int .u64 0, .int .u64 0, .bool false, .int .i64 0, .int .u32 0, .slice none 0 0] = w16
      intro hF hE9 hB
      obtain ⟨D2, hD2⟩ : ∃ D2 : Array Value, #[.int .u64 0, .int .u64 0, .bool false, .int .i64 0, .int .u32 0, .slice none 0 0] = D2 := ⟨_, rfl⟩
      have HDE : Hid (Smy.cells sumNone (.slice none (Smy.ents sumNone).length 0) = D2) := Lib.hid hD2
      have HSD2 : Hid (D2.size = 6) := (by rw [← hD2]; exact rfl)
      rw [hD2] at hF
      have HNw16 := Lib.hid hF
      have HE16 := Lib.hid hE9
      have HB16 := Lib.hid hB
      have HRD13 : Hid (ReadAt w16 s13 Ent5.cells 4 (Smy.ents sumNone)) := Lib.hid (fun h => absurd rfl h)
      have HRD15 : Hid (ReadAt w16 none Ent5.cells 4 (Smy.ents sumNone)) := Lib.hid (fun h => absurd rfl h)
      clear hF hE9 hB hD2 HSD H1D HNw15b HE15b HB15b HP15b
      have hq1 : w16.rangeAt p13 0 F.toList := box_range HE16.out
      have hq2 : w16.rangeAt p15 0 D2.toList := box_range HNw16.out
      have HQ : Hid (w16.rangeAt p13 0 F.toList ∧ w16.rangeAt p15 0 D2.toList ∧ Below w16.heap.size w16 w16) := ⟨hq1, hq2, Below.refl _ _⟩
      have hsz : (Try.prog.info? 105).map (·.size) = some F.toList.length := by rw [Array.length_toList, HSF.out]; exact infoSummary
      have hsr : (Try.prog.info? 101).map (·.size) = some D2.toList.length := by rw [Array.length_toList, HSD2.out]; exact infoRSum
      have HTO := fun W hb => Lib.hid (told_any sumNone s13 c13 F HEF.out HLY.out w16 W HRD13.out hb)
      clear hq1 hq2 HE16 HNw16
      refine wp_region_held_drew (S := (fun w' => w'.rangeAt p13 0 F.toList ∧ w'.rangeAt p15 0 D2.toList ∧ Below w16.heap.size w16 w')) (by kernel_rfl) (by exact ⟨HQ.out.1, HQ.out.2.1, HQ.out.2.2.drew⟩) (fun hHeld => ?_)
      refine take1_ (i := 0) (v := .agg F) (a' := ?_) (some 85) #[true, false, false, false, false, false, false, false, false, false, false, false, false, false, false, false, false, false] rfl rfl (by kernel_rfl) (fun _ _ _ h => h) (yieldsIf_load_mid (by rfl) 105 (.tmp 12) rfl p13 0 rfl F.toList _ (fun w h => h.1) Try.underlying105 rfl hsz) hHeld ?_ ?_
      rotate_left
      · simp only [Act.put, List.setIfInBounds_toArray, List.set_cons_zero, List.set_cons_succ]
        rfl
      refine take1_ (i := 2) (v := .agg D2) (a' := ?_) (some 87) #[true, false, true, false, false, false, false, false, false, false, false, false, false, false, false, false, false, false] rfl rfl (by kernel_rfl) (fun _ _ _ h => h) (yieldsIf_load_mid (by rfl) 101 (.tmp 13) rfl p15 0 rfl D2.toList _ (fun w h => h.2.1) Try.underlying101 rfl hsr) hHeld ?_ ?_
      rotate_left
      · simp only [Act.put, List.setIfInBounds_toArray, List.set_cons_zero, List.set_cons_succ]
        rfl
      refine loud1_ (i := 1) (some 86) #[true, true, true, false, false, false, false, false, false, false, false, false, false, false, false, false, false, false] rfl rfl (by kernel_rfl) (fun K hK => ?_)
      go_simp
      (go_at_call 43; go_must (refine (HTO _ hHeld.2.2).out.mono ?_; rintro e w17 ⟨v17, rfl, ho17, hb17⟩; obtain ⟨s17, c17, rfl⟩ := own_slice1 ho17; have HO17 := Lib.hid (own_readS ho17 rfl).1; have hnx : w17.rangeAt p13 0 F.toList ∧ w17.rangeAt p15 0 D2.toList ∧ Below w16.heap.size w16 w17 := ⟨range_belowS hHeld.1 hb17, range_belowS hHeld.2.1 hb17, bnext hHeld.2.2 hb17⟩))
      refine hK.out _ _ (by exact hnx) (fun hHeld' => ?_)
      clear hK K hHeld
      have hHeld := hHeld'
      clear hHeld'
      try simp only [Act.put, List.setIfInBounds_toArray, List.set_cons_zero, List.set_cons_succ]
      refine loud1_ (i := 3) (some 88) #[true, true, true, true, false, false, false, false, false, false, false, false, false, false, false, false, false, false] rfl rfl (by kernel_rfl) (fun K hK => ?_)
      go_simp
      (go_at_call 42; go_must (refine (same_any sumNone s17 none c17 _ D2 HDE.out HLY.out _ HO17.out (HRD15.out.below Ent5.cells_len hHeld.2.2)).mono ?_; rintro e w18 ⟨rfl, hb18⟩; have hnx : w18.rangeAt p13 0 F.toList ∧ w18.rangeAt p15 0 D2.toList ∧ Below w16.heap.size w16 w18 := ⟨range_belowS hHeld.1 hb18, range_belowS hHeld.2.1 hb18, bnext hHeld.2.2 hb18⟩))
      refine hK.out _ _ (by exact hnx) (fun hHeld' => ?_)
      clear hK K hHeld
      have hHeld := hHeld'
      clear hHeld'
      try simp only [Act.put, List.setIfInBounds_toArray, List.set_cons_zero, List.set_cons_succ]
      refine take1_ (i := 4) (v := ?_) (a' := ?_) (some 89) #[true, true, true, true, true, false, false, false, false, false, false, false, false, false, false, false, false, false] rfl rfl (by kernel_rfl) (fun _ _ _ h => h) (Or.inl ⟨by rfl, ?_⟩) hHeld ?_ ?_
      rotate_left
      · (intro w hSw; (try dsimp only at hSw); obtain ⟨hq1, hq2, hq3⟩ := hSw; go_simp; (try with_reducible rfl))
      rotate_left
      · simp only [Act.put, List.setIfInBounds_toArray, List.set_cons_zero, List.set_cons_succ]
        rfl
      refine take1_ (i := 5) (v := ?_) (a' := ?_) (some 90) #[true, true, true, true, true, true, false, false, false, false, false, false, false, false, false, false, false, false] rfl rfl (by kernel_rfl) (fun _ _ _ h => h) (Or.inl ⟨by rfl, ?_⟩) hHeld ?_ ?_
      rotate_left
      · (intro w hSw; (try dsimp only at hSw); obtain ⟨hq1, hq2, hq3⟩ := hSw; go_simp; (try with_reducible rfl))
      rotate_left
      · simp only [Act.put, List.setIfInBounds_toArray, List.set_cons_zero, List.set_cons_succ]
        rfl
      refine take1_ (i := 6) (v := ?_) (a' := ?_) (some 91) #[true, true, true, true, true, true, true, false, false, false, false, false, false, false, false, false, false, false] rfl rfl (by kernel_rfl) (fun _ _ _ h => h) (Or.inl ⟨by rfl, ?_⟩) hHeld ?_ ?_
      rotate_left
      · (intro w hSw; (try dsimp only at hSw); obtain ⟨hq1, hq2, hq3⟩ := hSw; go_simp; (try with_reducible rfl))
      rotate_left
      · simp only [Act.put, List.setIfInBounds_toArray, List.set_cons_zero, List.set_cons_succ]
        rfl
      refine take1_ (i := 7) (v := ?_) (a' := ?_) (some 92) #[true, true, true, true, true, true, true, true, false, false, false, false, false, false, false, false, false, false] rfl rfl (by kernel_rfl) (fun _ _ _ h => h) (Or.inl ⟨by rfl, ?_⟩) hHeld ?_ ?_
      rotate_left
      · (intro w hSw; (try dsimp only at hSw); obtain ⟨hq1, hq2, hq3⟩ := hSw; go_simp; (try with_reducible rfl))
      rotate_left
      · simp only [Act.put, List.setIfInBounds_toArray, List.set_cons_zero, List.set_cons_succ]
        rfl
      refine take1_ (i := 8) (v := ?_) (a' := ?_) (some 93) #[true, true, true, true, true, true, true, true, true, false, false, false, false, false, false, false, false, false] rfl rfl (by kernel_rfl) (fun _ _ _ h => h) (Or.inl ⟨by rfl, ?_⟩) hHeld ?_ ?_
      rotate_left
      · (intro w hSw; (try dsimp only at hSw); obtain ⟨hq1, hq2, hq3⟩ := hSw; go_simp; (try with_reducible rfl))
      rotate_left
      · simp only [Act.put, List.setIfInBounds_toArray, List.set_cons_zero, List.set_cons_succ]
        rfl
      refine take1_ (i := 9) (v := ?_) (a' := ?_) (some 94) #[true, true, true, true, true, true, true, true, true, true, false, false, false, false, false, false, false, false] rfl rfl (by kernel_rfl) (fun _ _ _ h => h) (Or.inl ⟨by rfl, ?_⟩) hHeld ?_ ?_
      rotate_left
      · (intro w hSw; (try dsimp only at hSw); obtain ⟨hq1, hq2, hq3⟩ := hSw; go_simp; (try with_reducible rfl))
      rotate_left
      · simp only [Act.put, List.setIfInBounds_toArray, List.set_cons_zero, List.set_cons_succ]
        rfl
      refine take1_ (i := 10) (v := ?_) (a' := ?_) (some 95) #[true, true, true, true, true, true, true, true, true, true, true, false, false, false, false, false, false, false] rfl rfl (by kernel_rfl) (fun _ _ _ h => h) (Or.inl ⟨by rfl, ?_⟩) hHeld ?_ ?_
      rotate_left
      · (intro w hSw; (try dsimp only at hSw); obtain ⟨hq1, hq2, hq3⟩ := hSw; go_simp; (try with_reducible rfl))
      rotate_left
      · simp only [Act.put, List.setIfInBounds_toArray, List.set_cons_zero, List.set_cons_succ]
        rfl
      refine take1_ (i := 11) (v := ?_) (a' := ?_) (some 96) #[true, true, true, true, true, true, true, true, true, true, true, true, false, false, false, false, false, false] rfl rfl (by kernel_rfl) (fun _ _ _ h => h) (Or.inl ⟨by rfl, ?_⟩) hHeld ?_ ?_
      rotate_left
      · (intro w hSw; (try dsimp only at hSw); obtain ⟨hq1, hq2, hq3⟩ := hSw; go_simp; (try with_reducible rfl))
      rotate_left
      · simp only [Act.put, List.setIfInBounds_toArray, List.set_cons_zero, List.set_cons_succ]
        rfl
      refine take1_ (i := 12) (v := ?_) (a' := ?_) (some 97) #[true, true, true, true, true, true, true, true, true, true, true, true, true, false, false, false, false, false] rfl rfl (by kernel_rfl) (fun _ _ _ h => h) (Or.inl ⟨by rfl, ?_⟩) hHeld ?_ ?_
      rotate_left
      · (intro w hSw; (try dsimp only at hSw); obtain ⟨hq1, hq2, hq3⟩ := hSw; go_simp; (try with_reducible rfl))
      rotate_left
      · simp only [Act.put, List.setIfInBounds_toArray, List.set_cons_zero, List.set_cons_succ]
        rfl
      refine take1_ (i := 13) (v := ?_) (a' := ?_) (some 98) #[true, true, true, true, true, true, true, true, true, true, true, true, true, true, false, false, false, false] rfl rfl (by kernel_rfl) (fun _ _ _ h => h) (Or.inl ⟨by rfl, ?_⟩) hHeld ?_ ?_
      rotate_left
      · (intro w hSw; (try dsimp only at hSw); obtain ⟨hq1, hq2, hq3⟩ := hSw; go_simp; (try with_reducible rfl))
      rotate_left
      · simp only [Act.put, List.setIfInBounds_toArray, List.set_cons_zero, List.set_cons_succ]
        rfl
      refine take1_ (i := 14) (v := ?_) (a' := ?_) (some 99) #[true, true, true, true, true, true, true, true, true, true, true, true, true, true, true, false, false, false] rfl rfl (by kernel_rfl) (fun _ _ _ h => h) (Or.inl ⟨by rfl, ?_⟩) hHeld ?_ ?_
      rotate_left
      · (intro w hSw; (try dsimp only at hSw); obtain ⟨hq1, hq2, hq3⟩ := hSw; go_simp; (try with_reducible rfl))
      rotate_left
      · simp only [Act.put, List.setIfInBounds_toArray, List.set_cons_zero, List.set_cons_succ]
        rfl
      refine take1_ (i := 15) (v := ?_) (a' := ?_) (some 100) #[true, true, true, true, true, true, true, true, true, true, true, true, true, true, true, true, false, false] rfl rfl (by kernel_rfl) (fun _ _ _ h => h) (Or.inl ⟨by rfl, ?_⟩) hHeld ?_ ?_
      rotate_left
      · (intro w hSw; (try dsimp only at hSw); obtain ⟨hq1, hq2, hq3⟩ := hSw; go_simp; (try with_reducible rfl))
      rotate_left
      · simp only [Act.put, List.setIfInBounds_toArray, List.set_cons_zero, List.set_cons_succ]
        rfl
      refine take1_ (i := 16) (v := ?_) (a' := ?_) (some 101) #[true, true, true, true, true, true, true, true, true, true, true, true, true, true, true, true, true, false] rfl rfl (by kernel_rfl) (fun _ _ _ h => h) (Or.inl ⟨by rfl, ?_⟩) hHeld ?_ ?_
      rotate_left
      · (intro w hSw; (try dsimp only at hSw); obtain ⟨hq1, hq2, hq3⟩ := hSw; go_simp; (try with_reducible rfl))
      rotate_left
      · simp only [Act.put, List.setIfInBounds_toArray, List.set_cons_zero, List.set_cons_succ]
        rfl
      refine take1_ (i := 17) (v := ?_) (a' := ?_) (some 4) #[true, true, true, true, true, true, true, true, true, true, true, true, true, true, true, true, true, true] rfl rfl (by kernel_rfl) (fun _ _ _ h => h) (Or.inl ⟨by rfl, ?_⟩) hHeld ?_ ?_
      rotate_left
      · (intro w hSw; (try dsimp only at hSw); obtain ⟨hq1, hq2, hq3⟩ := hSw; go_simp; (try with_reducible rfl))
      rotate_left
      · simp only [Act.put, List.setIfInBounds_toArray, List.set_cons_zero, List.set_cons_succ]
        rfl
      refine wpAnyH_done (by kernel_rfl) ?_ _
      have HBZ := Lib.hid (bnext HB16.out hHeld.2.2)
      clear hHeld
      go_wp2
      go_ret
      exact ⟨rfl, HBZ.out⟩
end Go.Proofs.Ytlcbfpcabalgcaa
