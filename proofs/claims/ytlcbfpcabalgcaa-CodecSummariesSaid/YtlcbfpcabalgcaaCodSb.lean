/-
  Codec: the reference's ReadSummary.
-/
import Derived.Test.YtlcbfpcabalgcaaCodSc
import Derived.Test.YtlcbfpcabalgcaaCodHg
import Derived.Test.YtlcbfpcabalgcaaInv
namespace Go.Proofs.Ytlcbfpcabalgcaa
open Go.RowKit
set_option linter.unusedVariables false
set_option linter.unusedSimpArgs false
set_option linter.unnecessarySimpa false
theorem built_rsum : Try.prog.built 101 [] = some #[.int .u64 0, .int .u64 0, .bool false, .int .i64 0, .int .u32 0, .slice none 0 0] := by kernel_rfl
/-- When the reference reads a summary of a body. -/
def b16 (b : List UInt8) : Nat := (b.getD 16 0).toNat
def b17 (b : List UInt8) : Nat := (b.getD 17 0).toNat
def sumOk4 (b : List UInt8) : Prop := 24 ≤ b.length ∧ b16 b ≤ 1 ∧ b.length = 24 + 9 * b17 b
instance (b : List UInt8) : Decidable (sumOk4 b) := by unfold sumOk4; infer_instance
def sumRefOk (l : List UInt8) : Bool := (openB l && decide (openK l = 3)) && (decide (sumOk4 (openL l)) && ((entrys (openL l) 24 (b17 (openL l))).all entryMay && decide (b17 (openL l) ≤ 8)))
/-- What the reference's ReadSummary comes to: where it is no summary, any value. -/
def RrSum (w : World) (l : List UInt8) (e : Ending) (w' : World) : Prop :=
  ∃ x v', e = .returned (.tuple #[.agg (Smy.cells x v'), .bool (sumRefOk l)]) ∧ (sumRefOk l = true → x = rsum (openL l) (b17 (openL l)) ∧ w'.ownsRow w.heap.size 162 4 v' x.ents.length (rowsOf Ent5.cells x.ents)) ∧ Below w.heap.size w w' ∧ v'.oneCell' = true
theorem rrSum_no {w w' : World} {l : List UInt8} {e : Ending} (h : sumRefOk l = false) (he : e = .returned (.tuple #[.agg #[.int .u64 0, .int .u64 0, .bool false, .int .i64 0, .int .u32 0, .slice none 0 0], .bool false])) (hb : Below w.heap.size w w') : RrSum w l e w' := by
  refine ⟨sumNone, .slice none 0 0, ?_, fun h' => ?_, hb, rfl⟩
  · rw [h]; exact he
  · rw [h] at h'; cases h'
theorem rrSum_all {w w' : World} {l b : List UInt8} {e : Ending} {v' : Value} (hb : openL l = b) (he : e = .returned (.tuple #[.agg (Smy.cells (rsum b (b17 b)) v'), .bool (sumRefOk l)])) (ho : w'.ownsRow w.heap.size 162 4 v' (b17 b) (rowsOf Ent5.cells (entrys b 24 (b17 b)))) (hbl : Below w.heap.size w w') : RrSum w l e w' := by
  refine ⟨_, v', he, fun _ => ⟨by rw [hb], ?_⟩, hbl, by obtain ⟨s, c, rfl⟩ := own_slice1 ho; rfl⟩
  show World.ownsRow _ _ _ _ _ (entrys b 24 (b17 b)).length _
  rw [entrys_len]
  exact ho
theorem getD_part (b : List UInt8) (a : Nat) (h : a + 1 ≤ b.length) : rN b a 1 = (b.getD a 0).toNat := by
  rw [rN_part b a 1 (by decide) h]
  unfold part
  have : (b.drop a).take 1 = [b.getD a 0] := by
    have h1 : a < b.length := by omega
    rw [List.drop_eq_getElem_cons h1, List.take_succ_cons, List.take_zero, List.getD_eq_getElem?_getD, List.getElem?_eq_getElem h1]
    rfl
  rw [this]
  simp [leNat]
theorem set4 {w : World} {p : Nat} {t : TypeId} {f : Nat × Nat} {x0 x1 x2 x3 : Value} (h : w.heap[p]? = some (.cells #[x0, x1, x2, x3] t f)) (a0 a1 a2 a3 : Value) :
    (((w.setCell ⟨p, 0, none⟩ a0).setCell ⟨p, 1, none⟩ a1).setCell ⟨p, 2, none⟩ a2).setCell ⟨p, 3, none⟩ a3 = w.setRow p #[a0, a1, a2, a3] := by
  rw [setCell_row h]
  repeat rw [setRow_setCell h]
  simp only [List.setIfInBounds_toArray, List.set_cons_zero, List.set_cons_succ]
theorem keep_row {F : Nat → Prop} {w w' : World} {p : Nat} {cs : Array Value} (h : Keep F w w') (hp : w.heap.size ≤ p) : Keep F w (w'.setRow p cs) :=
  ⟨h.os, h.tape, h.output, by rw [setRow_size]; exact h.size, fun k hk hF => (setRow_other _ _ _ _ (by omega)).trans (h.block k hk hF)⟩
theorem keep_grow {F : Nat → Prop} {a b c : World} (h : Keep F a b) (k : Below a.heap.size b c) : Keep F a c :=
  ⟨k.os.trans h.os, k.tape.trans h.tape, k.output.trans h.output, Nat.le_trans h.size k.size, fun i hi hF => (k.block i hi).trans (h.block i hi hF)⟩
theorem keep_row1 {w w' : World} {p : Nat} {cs : Array Value} (h : Keep (· = p) w w') : Keep (· = p) w (w'.setRow p cs) :=
  ⟨h.os, h.tape, h.output, by rw [setRow_size]; exact h.size, fun k hk hF => (setRow_other _ _ _ _ hF).trans (h.block k hk hF)⟩
theorem rdb_row {w : World} {bk o p : Nat} {b : List UInt8} {cs : Array Value} (h : RdB w bk o b) (hp : bk ≠ p) : RdB (w.setRow p cs) bk o b := fun i hi => by
  have := h i hi
  unfold World.cell? at this ⊢
  rw [setRow_other _ _ _ _ hp]
  exact this
set_option maxRecDepth 10000 in
set_option maxHeartbeats 16000000 in
theorem rreadSummary_any (l : List UInt8) (w : World) (hl : l.length = 128) :
    Calls Try.prog 44 #[secV l] w (RrSum w l) := by
  have HSZ : Hid ((bvs l).toArray.size = 128) := by unfold Hid; rw [secV_size, hl]
  have hop := fun w' => ropen_any l w' hl
  have hbl := openL_le l
  obtain ⟨k, hk⟩ : ∃ k, openK l = k := ⟨_, rfl⟩
  obtain ⟨b, hb⟩ : ∃ b, openL l = b := ⟨_, rfl⟩
  obtain ⟨oe, hoe⟩ : ∃ oe, openB l = oe := ⟨_, rfl⟩
  rw [hk, hb, hoe] at hop
  rw [hb] at hbl
  have hokd : sumRefOk l = ((oe && decide (k = 3)) && (decide (sumOk4 b) && ((entrys b 24 (b17 b)).all entryMay && decide (b17 b ≤ 8)))) := by unfold sumRefOk; rw [hoe, hk, hb]
  have HOKD := Lib.hid hokd
  have HBE := Lib.hid hb
  have HOP := fun w' => Lib.hid (hop w')
  clear hop hk hb hoe hl hokd
  have hB2 : Below w.heap.size w ((w.alloc (.cells (bvs l).toArray 28 (0, 0))).alloc (.cells #[.int .u64 0, .int .u64 0, .bool false, .int .i64 0, .int .u32 0, .slice none 0 0] 101 (0, 0))) := ((Below.refl _ _).alloc (Nat.le_refl _) _).alloc (by simp) _
  have hG2 := old_heap (heap_alloc_last w (.cells (bvs l).toArray 28 (0, 0))) ((Below.refl _ _).alloc (Nat.le_refl _) (.cells #[.int .u64 0, .int .u64 0, .bool false, .int .i64 0, .int .u32 0, .slice none 0 0] 101 (0, 0)))
  have hT2 := heap_alloc_last (w.alloc (.cells (bvs l).toArray 28 (0, 0))) (.cells #[.int .u64 0, .int .u64 0, .bool false, .int .i64 0, .int .u32 0, .slice none 0 0] 101 (0, 0))
  rw [show (w.alloc (.cells (bvs l).toArray 28 (0, 0))).heap.size = w.heap.size + 1 by simp] at hT2
  have hS2 : ((w.alloc (.cells (bvs l).toArray 28 (0, 0))).alloc (.cells #[.int .u64 0, .int .u64 0, .bool false, .int .i64 0, .int .u32 0, .slice none 0 0] 101 (0, 0))).heap.size = w.heap.size + 1 + 1 := by simp
  have HB2 := Lib.hid hB2
  have HG2 := Lib.hid hG2
  have HT2 := Lib.hid hT2
  have HS2 := Lib.hid hS2
  clear hB2 hG2 hT2 hS2
  unfold secV at HOP ⊢
  unfold RopTo at HOP
  go_enter Try.func44, Try.ntmps44
  go_upto_region 1 with fail
  revert HB2 HG2 HT2 HS2
  generalize (w.alloc (.cells (bvs l).toArray 28 (0, 0))).alloc (.cells #[.int .u64 0, .int .u64 0, .bool false, .int .i64 0, .int .u32 0, .slice none 0 0] 101 (0, 0)) = w2
  intro HB2 HG2 HT2 HS2
  go_upto_region 2 with (first
    | (refine wpList_load_row rfl 28 (.tmp 1) rfl w.heap.size rfl _ _ _ _ HG2.out Try.underlying28 rfl (by rw [HSZ.out]; exact size_arr) ?_)
    | (go_at_call 59; go_must (refine (HOP _).out.mono ?_; rintro e w4 ⟨v, rfl, ho4, hb4⟩; obtain ⟨sp, cp, rfl⟩ := own_slice1 ho4; have HO4 := Lib.hid (own_byt ho4).1; have HT4 := Lib.hid (old_heap HT2.out hb4); have HB4 := Lib.hid (bnext HB2.out hb4); have HZ4 := Lib.hid (Nat.le_trans (Nat.le_of_eq HS2.out.symm) hb4.size); clear ho4 hb4)))
  clear HOP HG2 HT2 HB2
  cases oe with
  | false =>
    have HNO : Hid (sumRefOk l = false) := Lib.hid (by rw [HOKD.out]; rfl)
    go_wp2_with (first
      | (refine wpList_build_at rfl 101 _ rfl [] (by simp) #[.int .u64 0, .int .u64 0, .bool false, .int .i64 0, .int .u32 0, .slice none 0 0] built_rsum ?_)
      | (refine wpList_store_row rfl 101 (.tmp 2) (.tmp 44) rfl (w.heap.size + 1) #[.int .u64 0, .int .u64 0, .bool false, .int .i64 0, .int .u32 0, .slice none 0 0] #[.int .u64 0, .int .u64 0, .bool false, .int .i64 0, .int .u32 0, .slice none 0 0] 101 rfl rfl HT4.out infoRSum rfl (by simp [Value.oneCell']) ?_))
    have hld := run_loadVar_row (P := Try.prog) (w4.setRow (w.heap.size + 1) #[.int .u64 0, .int .u64 0, .bool false, .int .i64 0, .int .u32 0, .slice none 0 0]) (w.heap.size + 1) 101 101 #[.int .u64 0, .int .u64 0, .bool false, .int .i64 0, .int .u32 0, .slice none 0 0] (0, 0) _ (setRow_heap _ _ _ _ _ _ HT4.out) Try.underlying101 (by simp) infoRSum
    exact bodyPost_ret (v := .tuple #[.agg #[.int .u64 0, .int .u64 0, .bool false, .int .i64 0, .int .u32 0, .slice none 0 0], .bool false]) (results_cell2 Try.results44 rfl rfl hld) rfl (rrSum_no HNO.out rfl (below_row HB4.out (by omega)))
  | true =>
    by_cases hk : k = 3
    rotate_left
    · have HNO : Hid (sumRefOk l = false) := Lib.hid (by rw [HOKD.out]; simp [hk])
      have hkk : ((k.toNat : Int) != 3) = true := kind_ne k 3 hk
      clear hk
      go_wp2_with (first
        | (refine wpList_build_at rfl 101 _ rfl [] (by simp) #[.int .u64 0, .int .u64 0, .bool false, .int .i64 0, .int .u32 0, .slice none 0 0] built_rsum ?_)
        | (refine wpList_store_row rfl 101 (.tmp 2) (.tmp 44) rfl (w.heap.size + 1) #[.int .u64 0, .int .u64 0, .bool false, .int .i64 0, .int .u32 0, .slice none 0 0] #[.int .u64 0, .int .u64 0, .bool false, .int .i64 0, .int .u32 0, .slice none 0 0] 101 rfl rfl HT4.out infoRSum rfl (by simp [Value.oneCell']) ?_))
      have hld := run_loadVar_row (P := Try.prog) (w4.setRow (w.heap.size + 1) #[.int .u64 0, .int .u64 0, .bool false, .int .i64 0, .int .u32 0, .slice none 0 0]) (w.heap.size + 1) 101 101 #[.int .u64 0, .int .u64 0, .bool false, .int .i64 0, .int .u32 0, .slice none 0 0] (0, 0) _ (setRow_heap _ _ _ _ _ _ HT4.out) Try.underlying101 (by simp) infoRSum
      exact bodyPost_ret (v := .tuple #[.agg #[.int .u64 0, .int .u64 0, .bool false, .int .i64 0, .int .u32 0, .slice none 0 0], .bool false]) (results_cell2 Try.results44 rfl rfl hld) rfl (rrSum_no HNO.out rfl (below_row HB4.out (by omega)))
    · subst hk
      by_cases h24 : 24 ≤ b.length
      rotate_left
      · have HNO : Hid (sumRefOk l = false) := Lib.hid (by rw [HOKD.out, decide_eq_false (show ¬ sumOk4 b from fun h => h24 h.1)]; simp)
        have h24' : (b.length : Int) < 24 := by omega
        clear h24
        go_wp2_with (first
          | (refine wpList_build_at rfl 101 _ rfl [] (by simp) #[.int .u64 0, .int .u64 0, .bool false, .int .i64 0, .int .u32 0, .slice none 0 0] built_rsum ?_)
          | (refine wpList_store_row rfl 101 (.tmp 2) (.tmp 44) rfl (w.heap.size + 1) #[.int .u64 0, .int .u64 0, .bool false, .int .i64 0, .int .u32 0, .slice none 0 0] #[.int .u64 0, .int .u64 0, .bool false, .int .i64 0, .int .u32 0, .slice none 0 0] 101 rfl rfl HT4.out infoRSum rfl (by simp [Value.oneCell']) ?_))
        have hld := run_loadVar_row (P := Try.prog) (w4.setRow (w.heap.size + 1) #[.int .u64 0, .int .u64 0, .bool false, .int .i64 0, .int .u32 0, .slice none 0 0]) (w.heap.size + 1) 101 101 #[.int .u64 0, .int .u64 0, .bool false, .int .i64 0, .int .u32 0, .slice none 0 0] (0, 0) _ (setRow_heap _ _ _ _ _ _ HT4.out) Try.underlying101 (by simp) infoRSum
        exact bodyPost_ret (v := .tuple #[.agg #[.int .u64 0, .int .u64 0, .bool false, .int .i64 0, .int .u32 0, .slice none 0 0], .bool false]) (results_cell2 Try.results44 rfl rfl hld) rfl (rrSum_no HNO.out rfl (below_row HB4.out (by omega)))
      · have hsp : ∃ bk o, sp = some ⟨bk, o, none⟩ ∧ b.length ≤ cp ∧ RdB w4 bk o b := by
          rcases HO4.out with ⟨h', _⟩ | ⟨bk, o, c', he, h2, h3, h4⟩
          · rw [h'] at h24; simp at h24
          · injection he with e1 e2 e3; subst e1; subst e3
            exact ⟨bk, o, rfl, h2, h4⟩
        obtain ⟨bk, o, rfl, hcp, hrd⟩ := hsp
        have h24' : ¬ (b.length : Int) < 24 := by omega
        have k16 : w4.cell? ⟨bk, o + 16, none⟩ = some (.int .u8 (b16 b : Int)) := hrd 16 (by omega)
        have k17 : w4.cell? ⟨bk, o + 17, none⟩ = some (.int .u8 (b17 b : Int)) := hrd 17 (by omega)
        have hi16 : (16 : Int) < (b.length : Int) := by omega
        have hi17 : (17 : Int) < (b.length : Int) := by omega
        have HRD := Lib.hid hrd
        have hz16 : b16 b < 256 := UInt8.toNat_lt _
        have hz17 : b17 b < 256 := UInt8.toNat_lt _
        obtain ⟨n2, hn2⟩ : ∃ n, b16 b = n := ⟨_, rfl⟩
        obtain ⟨J, hJ⟩ : ∃ n, b17 b = n := ⟨_, rfl⟩
        rw [hn2] at k16 hz16
        rw [hJ] at k17 hz17
        have HN2 := Lib.hid hn2
        have HJ := Lib.hid hJ
        clear hrd hn2 hJ
        by_cases h16 : n2 ≤ 1
        rotate_left
        · have HNO : Hid (sumRefOk l = false) := Lib.hid (by rw [HOKD.out, decide_eq_false (show ¬ sumOk4 b from fun h => h16 (by rw [← HN2.out]; exact h.2.1))]; simp)
          have h16' : (1 : Int) < (n2 : Int) := by omega
          clear h16
          go_wp2_with (first
            | (refine wpList_build_at rfl 101 _ rfl [] (by simp) #[.int .u64 0, .int .u64 0, .bool false, .int .i64 0, .int .u32 0, .slice none 0 0] built_rsum ?_)
            | (refine wpList_store_row rfl 101 (.tmp 2) (.tmp 44) rfl (w.heap.size + 1) #[.int .u64 0, .int .u64 0, .bool false, .int .i64 0, .int .u32 0, .slice none 0 0] #[.int .u64 0, .int .u64 0, .bool false, .int .i64 0, .int .u32 0, .slice none 0 0] 101 rfl rfl HT4.out infoRSum rfl (by simp [Value.oneCell']) ?_))
          have hld := run_loadVar_row (P := Try.prog) (w4.setRow (w.heap.size + 1) #[.int .u64 0, .int .u64 0, .bool false, .int .i64 0, .int .u32 0, .slice none 0 0]) (w.heap.size + 1) 101 101 #[.int .u64 0, .int .u64 0, .bool false, .int .i64 0, .int .u32 0, .slice none 0 0] (0, 0) _ (setRow_heap _ _ _ _ _ _ HT4.out) Try.underlying101 (by simp) infoRSum
          exact bodyPost_ret (v := .tuple #[.agg #[.int .u64 0, .int .u64 0, .bool false, .int .i64 0, .int .u32 0, .slice none 0 0], .bool false]) (results_cell2 Try.results44 rfl rfl hld) rfl (rrSum_no HNO.out rfl (below_row HB4.out (by omega)))
        · have h16' : ¬ (1 : Int) < (n2 : Int) := by omega
          have hwj : IntKind.i64.wrap (J : Int) = (J : Int) := IntWalk.i64_in _ (by omega)
          have hwj9 : IntKind.i64.wrap (9 * (J : Int)) = 9 * (J : Int) := IntWalk.i64_in _ (by omega)
          have hwj24 : IntKind.i64.wrap (24 + 9 * (J : Int)) = 24 + 9 * (J : Int) := IntWalk.i64_in _ (by omega)
          by_cases hlen : b.length = 24 + 9 * J
          rotate_left
          · have HNO : Hid (sumRefOk l = false) := Lib.hid (by rw [HOKD.out, decide_eq_false (show ¬ sumOk4 b from fun h => hlen (by rw [← HJ.out]; exact h.2.2))]; simp)
            have hlen' : ((b.length : Int) != 24 + 9 * (J : Int)) = true := bne_iff_ne.2 (by omega)
            clear hlen
            go_wp2_with (first
              | (refine wpList_build_at rfl 101 _ rfl [] (by simp) #[.int .u64 0, .int .u64 0, .bool false, .int .i64 0, .int .u32 0, .slice none 0 0] built_rsum ?_)
              | (refine wpList_store_row rfl 101 (.tmp 2) (.tmp 44) rfl (w.heap.size + 1) #[.int .u64 0, .int .u64 0, .bool false, .int .i64 0, .int .u32 0, .slice none 0 0] #[.int .u64 0, .int .u64 0, .bool false, .int .i64 0, .int .u32 0, .slice none 0 0] 101 rfl rfl HT4.out infoRSum rfl (by simp [Value.oneCell']) ?_))
            have hld := run_loadVar_row (P := Try.prog) (w4.setRow (w.heap.size + 1) #[.int .u64 0, .int .u64 0, .bool false, .int .i64 0, .int .u32 0, .slice none 0 0]) (w.heap.size + 1) 101 101 #[.int .u64 0, .int .u64 0, .bool false, .int .i64 0, .int .u32 0, .slice none 0 0] (0, 0) _ (setRow_heap _ _ _ _ _ _ HT4.out) Try.underlying101 (by simp) infoRSum
            exact bodyPost_ret (v := .tuple #[.agg #[.int .u64 0, .int .u64 0, .bool false, .int .i64 0, .int .u32 0, .slice none 0 0], .bool false]) (results_cell2 Try.results44 rfl rfl hld) rfl (rrSum_no HNO.out rfl (below_row HB4.out (by omega)))
          · have hlen' : ((b.length : Int) != 24 + 9 * (J : Int)) = false := by rw [bne_eq_false_iff_eq]; omega
            have HLEN := Lib.hid hlen
            clear hlen
            go_upto_region 4 with fail
            have q0 := fun W (h : RdB W bk o b) => Lib.hid (num_cut (cp := cp) h (a := 0) (k := 8) (by omega) (by decide))
            have q1 := fun W (h : RdB W bk o b) => Lib.hid (num_cut (cp := cp - 8) h (a := 8) (k := 8) (by omega) (by decide))
            have q3 := fun W (h : RdB W bk o b) => Lib.hid (num_cut (cp := cp - 18) h (a := 18) (k := 2) (by omega) (by decide))
            have q4 := fun W (h : RdB W bk o b) => Lib.hid (num_cut (cp := cp - 20) h (a := 20) (k := 4) (by omega) (by decide))
            simp only [Nat.add_zero] at q0
            have l0 := rN_lt b 0 8
            have l1 := rN_lt b 8 8
            have l3 := Nat.lt_of_lt_of_le (rN_lt b 18 2) (show 256 ^ 2 ≤ 65536 by decide)
            have l4 := Nat.lt_of_lt_of_le (rN_lt b 20 4) (show 256 ^ 4 ≤ 4294967296 by decide)
            obtain ⟨n0, hn0⟩ : ∃ n, rN b 0 8 = n := ⟨_, rfl⟩
            obtain ⟨n1, hn1⟩ : ∃ n, rN b 8 8 = n := ⟨_, rfl⟩
            obtain ⟨n3, hn3⟩ : ∃ n, rN b 18 2 = n := ⟨_, rfl⟩
            obtain ⟨n4, hn4⟩ : ∃ n, rN b 20 4 = n := ⟨_, rfl⟩
            simp only [hn0] at q0
            simp only [hn1] at q1
            simp only [hn3] at q3
            simp only [hn4] at q4
            rw [hn3] at l3
            rw [hn4] at l4
            have HNN := Lib.hid (⟨hn0, hn1, hn3, hn4⟩ : rN b 0 8 = n0 ∧ rN b 8 8 = n1 ∧ rN b 18 2 = n3 ∧ rN b 20 4 = n4)
            have w3' : IntKind.i64.wrap (n3 : Int) = (n3 : Int) := IntWalk.i64_in _ (by omega)
            have w4' : IntKind.u32.wrap (n4 : Int) = (n4 : Int) := by unfold IntKind.wrap; simp [IntKind.signed, IntKind.bits]; omega
            have z8 : (8 : Int) ≤ (cp : Int) := by omega
            have z16 : (16 : Int) ≤ (cp : Int) := by omega
            have z18 : (18 : Int) ≤ (cp : Int) := by omega
            have z20 : (20 : Int) ≤ (cp : Int) := by omega
            have z24 : (24 : Int) ≤ (cp : Int) := by omega
            have c8 : ¬ cp = 8 := by omega
            have c18 : ¬ cp = 18 := by omega
            have c20 : ¬ cp = 20 := by omega
            have HWJ := Lib.hid (⟨h24, h16, hz17⟩ : 24 ≤ b.length ∧ n2 ≤ 1 ∧ J < 256)
            have HCP := Lib.hid hcp
            have hbk : bk < w4.heap.size := HRD.out.lt (by omega)
            have hS4 : RdB w4.drew bk o b ∧ Below w4.heap.size w4 w4.drew := ⟨HRD.out, (Below.refl _ _).drew⟩
            clear l0 l1 hn0 hn1 hn3 hn4 hlen' h24 h24' h16 h16' hz16 hz17 hwj hwj9 hwj24 k17 hi17 hcp k16
            refine wp_region_inv_lit (S := (fun w' => RdB w' bk o b ∧ Below w4.heap.size w4 w')) (nthF [(fun σ _ => σ 0 = .slice (some ⟨bk, o, none⟩) b.length cp), (fun σ _ => σ 1 = .slice (some ⟨bk, o, none⟩) 8 cp), (fun σ _ => σ 2 = .int .u64 (n0 : Int)), (fun σ _ => σ 3 = .slice (some ⟨bk, o, none⟩) b.length cp), (fun σ _ => σ 4 = .slice (some ⟨bk, o + 8, none⟩) 8 (cp - 8)), (fun σ _ => σ 5 = .int .u64 (n1 : Int)), (fun σ _ => σ 6 = .slice (some ⟨bk, o, none⟩) b.length cp), (fun σ _ => σ 7 = .pointer (some ⟨bk, o + 16, none⟩)), (fun σ _ => σ 8 = .int .u8 (n2 : Int)), (fun σ _ => σ 9 = .bool ((n2 : Int) == 1)), (fun σ _ => σ 10 = .slice (some ⟨bk, o, none⟩) b.length cp), (fun σ _ => σ 11 = .slice (some ⟨bk, o + 18, none⟩) 2 (cp - 18)), (fun σ _ => σ 12 = .int .u64 (n3 : Int)), (fun σ _ => σ 13 = .int .i64 (n3 : Int)), (fun σ _ => σ 14 = .slice (some ⟨bk, o, none⟩) b.length cp), (fun σ _ => σ 15 = .slice (some ⟨bk, o + 20, none⟩) 4 (cp - 20)), (fun σ _ => σ 16 = .int .u64 (n4 : Int)), (fun σ _ => σ 17 = .int .u32 (n4 : Int)), (fun σ _ => σ 18 = .agg #[.int .u64 (n0 : Int), .int .u64 (n1 : Int), .bool ((n2 : Int) == 1), .int .i64 (n3 : Int), .int .u32 (n4 : Int), .slice none 0 0]), (fun σ w' => ∃ p, σ 19 = .pointer (some ⟨p, 0, none⟩) ∧ w4.heap.size ≤ p ∧ ∃ x0 x1 x2 x3 x4 x5, w'.heap[p]? = some (.cells #[x0, x1, x2, x3, x4, x5] 101 (0, 0))), (fun σ w' => ∃ p, σ 19 = .pointer (some ⟨p, 0, none⟩) ∧ w4.heap.size ≤ p ∧ w'.heap[p]? = some (.cells #[.int .u64 (n0 : Int), .int .u64 (n1 : Int), .bool ((n2 : Int) == 1), .int .i64 (n3 : Int), .int .u32 (n4 : Int), .slice none 0 0] 101 (0, 0)))]) 120 21 (by kernel_rfl) (by rfl) (by rfl) (by kernel_rfl) ?_ ?_ ?_
            · (try dsimp only)
              first | (with_reducible exact SS.out) | (with_reducible exact hS4) | (with_reducible exact ⟨SS.out.1.below ((Below.refl _ _).alloc (Nat.le_refl _) _), SS.out.2.alloc SS.out.2.size _⟩) | (rw [set6 HX.out]; exact ⟨rdb_row SS.out.1 (by omega), below_row SS.out.2 hp⟩)
            · intro QQ
              refine ⟨⟨⟨⟨⟨⟨⟨⟨⟨⟨⟨⟨⟨⟨⟨⟨⟨⟨⟨⟨⟨trivial, ?_⟩, ?_⟩, ?_⟩, ?_⟩, ?_⟩, ?_⟩, ?_⟩, ?_⟩, ?_⟩, ?_⟩, ?_⟩, ?_⟩, ?_⟩, ?_⟩, ?_⟩, ?_⟩, ?_⟩, ?_⟩, ?_⟩, ?_⟩, ?_⟩
              · refine StepOf.introL (i := 0) rfl (some 45) rfl [] [5] [3, 4, 6, 7, 8, 9, 10, 11, 14, 15, 19] (by kernel_rfl) ?_
                intro σ aa ww sS sF sU sA K hK
                clear sF
                have sl5 := AllSlots.cons_none sA (by kernel_rfl)
                try simp only [List.getElem?_toArray, List.getElem?_cons_succ, List.getElem?_cons_zero] at sl5
                replace sA := sA.2
                clear sA
                try (have SS := Lib.hid sS; have c16 : ww.cell? ⟨bk, o + 16, none⟩ = some (.int .u8 (n2 : Int)) := by { have := sS.1 16 (by have := HWJ.out.1; omega); rw [this, ← HN2.out]; rfl })
                try (obtain ⟨p, e4, hp, x0, x1, x2, x3, x4, x5, hx⟩ := f19; rw [e4] at sl7; have c0 := cell_row hx 0; have c1 := cell_row hx 1; have c2 := cell_row hx 2; have c3 := cell_row hx 3; have c4 := cell_row hx 4; have c5 := cell_row hx 5; have r0 := free_row hx 0; have r1 := free_row hx 1; have r2 := free_row hx 2; have r3 := free_row hx 3; have r4 := free_row hx 4; have r5 := free_row hx 5; have HX := Lib.hid hx; have E4 := Lib.hid e4; clear hx)
                try go_simp
                refine Shut.out hK _ _ ?_ ?_ ?_
                · (try clear hK)
                  (try dsimp only)
                  first | (with_reducible exact SS.out) | (with_reducible exact hS4) | (with_reducible exact ⟨SS.out.1.below ((Below.refl _ _).alloc (Nat.le_refl _) _), SS.out.2.alloc SS.out.2.size _⟩) | (rw [set6 HX.out]; exact ⟨rdb_row SS.out.1 (by omega), below_row SS.out.2 hp⟩)
                · (try clear hK)
                  simp only [nthF]
                  (try simp only [upd, if_true, if_false, Nat.reduceEqDiff, reduceIte])
                  first | done | trivial | rfl
                · refine ⟨?_, ?_, ?_, ?_, ?_, ?_, ?_, ?_, ?_, ?_, ?_, trivial⟩
                  all_goals (try clear hK)
                  all_goals simp only [nthF]
                  all_goals (try simp only [upd, if_true, if_false, Nat.reduceEqDiff, reduceIte])
                  all_goals first | done | with_reducible exact fun h => h | exact (fun _ => trivial) | (intro hpr; first | (with_reducible exact hpr) | (obtain ⟨p', e', hp', z0, z1, z2, z3, z4, z5, hz⟩ := hpr; have e6 := e'.symm.trans E4.out; injection e6 with e6; injection e6 with e6; injection e6 with e6; subst e6; refine ⟨_, e', hp', ?_⟩; rw [set6 HX.out]; exact ⟨_, _, _, _, _, _, setRow_heap _ _ _ _ _ _ HX.out⟩)) | exact fun h => h
              · refine StepOf.introL (i := 1) rfl (some 46) rfl [0] [45] [0, 3, 4, 6, 7, 8, 9, 10, 11, 14, 15, 19] (by kernel_rfl) ?_
                intro σ aa ww sS sF sU sA K hK
                have f0 : (fun σ _ => σ 0 = .slice (some ⟨bk, o, none⟩) b.length cp) σ ww := sF.1; try dsimp only at f0
                clear sF
                have sl45 := AllSlots.cons_who (j := 0) sA (by kernel_rfl)
                replace sA := sA.2
                clear sA
                try (have SS := Lib.hid sS; have c16 : ww.cell? ⟨bk, o + 16, none⟩ = some (.int .u8 (n2 : Int)) := by { have := sS.1 16 (by have := HWJ.out.1; omega); rw [this, ← HN2.out]; rfl })
                try (obtain ⟨p, e4, hp, x0, x1, x2, x3, x4, x5, hx⟩ := f19; rw [e4] at sl7; have c0 := cell_row hx 0; have c1 := cell_row hx 1; have c2 := cell_row hx 2; have c3 := cell_row hx 3; have c4 := cell_row hx 4; have c5 := cell_row hx 5; have r0 := free_row hx 0; have r1 := free_row hx 1; have r2 := free_row hx 2; have r3 := free_row hx 3; have r4 := free_row hx 4; have r5 := free_row hx 5; have HX := Lib.hid hx; have E4 := Lib.hid e4; clear hx)
                try rw [f0] at sl45
                try go_simp
                refine Shut.out hK _ _ ?_ ?_ ?_
                · (try clear hK)
                  (try dsimp only)
                  first | (with_reducible exact SS.out) | (with_reducible exact hS4) | (with_reducible exact ⟨SS.out.1.below ((Below.refl _ _).alloc (Nat.le_refl _) _), SS.out.2.alloc SS.out.2.size _⟩) | (rw [set6 HX.out]; exact ⟨rdb_row SS.out.1 (by omega), below_row SS.out.2 hp⟩)
                · (try clear hK)
                  simp only [nthF]
                  (try simp only [upd, if_true, if_false, Nat.reduceEqDiff, reduceIte])
                  first | done | trivial | rfl
                · refine ⟨?_, ?_, ?_, ?_, ?_, ?_, ?_, ?_, ?_, ?_, ?_, ?_, trivial⟩
                  all_goals (try clear hK)
                  all_goals simp only [nthF]
                  all_goals (try simp only [upd, if_true, if_false, Nat.reduceEqDiff, reduceIte])
                  all_goals first | done | with_reducible exact fun h => h | exact (fun _ => trivial) | (intro hpr; first | (with_reducible exact hpr) | (obtain ⟨p', e', hp', z0, z1, z2, z3, z4, z5, hz⟩ := hpr; have e6 := e'.symm.trans E4.out; injection e6 with e6; injection e6 with e6; injection e6 with e6; subst e6; refine ⟨_, e', hp', ?_⟩; rw [set6 HX.out]; exact ⟨_, _, _, _, _, _, setRow_heap _ _ _ _ _ _ HX.out⟩)) | exact fun h => h
              · refine StepOf.introL (i := 2) rfl (some 47) rfl [1, 0] [46] [0, 1, 3, 4, 6, 7, 8, 9, 10, 11, 14, 15, 19] (by kernel_rfl) ?_
                intro σ aa ww sS sF sU sA K hK
                have f1 : (fun σ _ => σ 1 = .slice (some ⟨bk, o, none⟩) 8 cp) σ ww := sF.1; try dsimp only at f1
                clear sF
                have sl46 := AllSlots.cons_who (j := 1) sA (by kernel_rfl)
                replace sA := sA.2
                clear sA
                try (have SS := Lib.hid sS; have c16 : ww.cell? ⟨bk, o + 16, none⟩ = some (.int .u8 (n2 : Int)) := by { have := sS.1 16 (by have := HWJ.out.1; omega); rw [this, ← HN2.out]; rfl })
                try (obtain ⟨p, e4, hp, x0, x1, x2, x3, x4, x5, hx⟩ := f19; rw [e4] at sl7; have c0 := cell_row hx 0; have c1 := cell_row hx 1; have c2 := cell_row hx 2; have c3 := cell_row hx 3; have c4 := cell_row hx 4; have c5 := cell_row hx 5; have r0 := free_row hx 0; have r1 := free_row hx 1; have r2 := free_row hx 2; have r3 := free_row hx 3; have r4 := free_row hx 4; have r5 := free_row hx 5; have HX := Lib.hid hx; have E4 := Lib.hid e4; clear hx)
                try rw [f1] at sl46
                try go_simp
                first | (go_at_call 60; with_reducible refine ((q0 _ SS.out.1).out).mono ?_; rintro e w2 ⟨rfl, rfl⟩) | (go_at_call 60; with_reducible refine ((q1 _ SS.out.1).out).mono ?_; rintro e w2 ⟨rfl, rfl⟩) | (go_at_call 60; with_reducible refine ((q3 _ SS.out.1).out).mono ?_; rintro e w2 ⟨rfl, rfl⟩) | (go_at_call 60; with_reducible refine ((q4 _ SS.out.1).out).mono ?_; rintro e w2 ⟨rfl, rfl⟩)
                refine Shut.out hK _ _ ?_ ?_ ?_
                · (try clear hK)
                  (try dsimp only)
                  first | (with_reducible exact SS.out) | (with_reducible exact hS4) | (with_reducible exact ⟨SS.out.1.below ((Below.refl _ _).alloc (Nat.le_refl _) _), SS.out.2.alloc SS.out.2.size _⟩) | (rw [set6 HX.out]; exact ⟨rdb_row SS.out.1 (by omega), below_row SS.out.2 hp⟩)
                · (try clear hK)
                  simp only [nthF]
                  (try simp only [upd, if_true, if_false, Nat.reduceEqDiff, reduceIte])
                  first | done | trivial | rfl
                · refine ⟨?_, ?_, ?_, ?_, ?_, ?_, ?_, ?_, ?_, ?_, ?_, ?_, ?_, trivial⟩
                  all_goals (try clear hK)
                  all_goals simp only [nthF]
                  all_goals (try simp only [upd, if_true, if_false, Nat.reduceEqDiff, reduceIte])
                  all_goals first | done | with_reducible exact fun h => h | exact (fun _ => trivial) | (intro hpr; first | (with_reducible exact hpr) | (obtain ⟨p', e', hp', z0, z1, z2, z3, z4, z5, hz⟩ := hpr; have e6 := e'.symm.trans E4.out; injection e6 with e6; injection e6 with e6; injection e6 with e6; subst e6; refine ⟨_, e', hp', ?_⟩; rw [set6 HX.out]; exact ⟨_, _, _, _, _, _, setRow_heap _ _ _ _ _ _ HX.out⟩)) | exact fun h => h
              · refine StepOf.introL (i := 3) rfl (some 48) rfl [] [5] [0, 1, 2, 6, 7, 8, 9, 10, 11, 14, 15, 19] (by kernel_rfl) ?_
                intro σ aa ww sS sF sU sA K hK
                clear sF
                have sl5 := AllSlots.cons_none sA (by kernel_rfl)
                try simp only [List.getElem?_toArray, List.getElem?_cons_succ, List.getElem?_cons_zero] at sl5
                replace sA := sA.2
                clear sA
                try (have SS := Lib.hid sS; have c16 : ww.cell? ⟨bk, o + 16, none⟩ = some (.int .u8 (n2 : Int)) := by { have := sS.1 16 (by have := HWJ.out.1; omega); rw [this, ← HN2.out]; rfl })
                try (obtain ⟨p, e4, hp, x0, x1, x2, x3, x4, x5, hx⟩ := f19; rw [e4] at sl7; have c0 := cell_row hx 0; have c1 := cell_row hx 1; have c2 := cell_row hx 2; have c3 := cell_row hx 3; have c4 := cell_row hx 4; have c5 := cell_row hx 5; have r0 := free_row hx 0; have r1 := free_row hx 1; have r2 := free_row hx 2; have r3 := free_row hx 3; have r4 := free_row hx 4; have r5 := free_row hx 5; have HX := Lib.hid hx; have E4 := Lib.hid e4; clear hx)
                try go_simp
                refine Shut.out hK _ _ ?_ ?_ ?_
                · (try clear hK)
                  (try dsimp only)
                  first | (with_reducible exact SS.out) | (with_reducible exact hS4) | (with_reducible exact ⟨SS.out.1.below ((Below.refl _ _).alloc (Nat.le_refl _) _), SS.out.2.alloc SS.out.2.size _⟩) | (rw [set6 HX.out]; exact ⟨rdb_row SS.out.1 (by omega), below_row SS.out.2 hp⟩)
                · (try clear hK)
                  simp only [nthF]
                  (try simp only [upd, if_true, if_false, Nat.reduceEqDiff, reduceIte])
                  first | done | trivial | rfl
                · refine ⟨?_, ?_, ?_, ?_, ?_, ?_, ?_, ?_, ?_, ?_, ?_, ?_, trivial⟩
                  all_goals (try clear hK)
                  all_goals simp only [nthF]
                  all_goals (try simp only [upd, if_true, if_false, Nat.reduceEqDiff, reduceIte])
                  all_goals first | done | with_reducible exact fun h => h | exact (fun _ => trivial) | (intro hpr; first | (with_reducible exact hpr) | (obtain ⟨p', e', hp', z0, z1, z2, z3, z4, z5, hz⟩ := hpr; have e6 := e'.symm.trans E4.out; injection e6 with e6; injection e6 with e6; injection e6 with e6; subst e6; refine ⟨_, e', hp', ?_⟩; rw [set6 HX.out]; exact ⟨_, _, _, _, _, _, setRow_heap _ _ _ _ _ _ HX.out⟩)) | exact fun h => h
              · refine StepOf.introL (i := 4) rfl (some 49) rfl [3] [48] [0, 1, 2, 3, 6, 7, 8, 9, 10, 11, 14, 15, 19] (by kernel_rfl) ?_
                intro σ aa ww sS sF sU sA K hK
                have f3 : (fun σ _ => σ 3 = .slice (some ⟨bk, o, none⟩) b.length cp) σ ww := sF.1; try dsimp only at f3
                clear sF
                have sl48 := AllSlots.cons_who (j := 3) sA (by kernel_rfl)
                replace sA := sA.2
                clear sA
                try (have SS := Lib.hid sS; have c16 : ww.cell? ⟨bk, o + 16, none⟩ = some (.int .u8 (n2 : Int)) := by { have := sS.1 16 (by have := HWJ.out.1; omega); rw [this, ← HN2.out]; rfl })
                try (obtain ⟨p, e4, hp, x0, x1, x2, x3, x4, x5, hx⟩ := f19; rw [e4] at sl7; have c0 := cell_row hx 0; have c1 := cell_row hx 1; have c2 := cell_row hx 2; have c3 := cell_row hx 3; have c4 := cell_row hx 4; have c5 := cell_row hx 5; have r0 := free_row hx 0; have r1 := free_row hx 1; have r2 := free_row hx 2; have r3 := free_row hx 3; have r4 := free_row hx 4; have r5 := free_row hx 5; have HX := Lib.hid hx; have E4 := Lib.hid e4; clear hx)
                try rw [f3] at sl48
                try go_simp
                refine Shut.out hK _ _ ?_ ?_ ?_
                · (try clear hK)
                  (try dsimp only)
                  first | (with_reducible exact SS.out) | (with_reducible exact hS4) | (with_reducible exact ⟨SS.out.1.below ((Below.refl _ _).alloc (Nat.le_refl _) _), SS.out.2.alloc SS.out.2.size _⟩) | (rw [set6 HX.out]; exact ⟨rdb_row SS.out.1 (by omega), below_row SS.out.2 hp⟩)
                · (try clear hK)
                  simp only [nthF]
                  (try simp only [upd, if_true, if_false, Nat.reduceEqDiff, reduceIte])
                  first | done | trivial | rfl
                · refine ⟨?_, ?_, ?_, ?_, ?_, ?_, ?_, ?_, ?_, ?_, ?_, ?_, ?_, trivial⟩
                  all_goals (try clear hK)
                  all_goals simp only [nthF]
                  all_goals (try simp only [upd, if_true, if_false, Nat.reduceEqDiff, reduceIte])
                  all_goals first | done | with_reducible exact fun h => h | exact (fun _ => trivial) | (intro hpr; first | (with_reducible exact hpr) | (obtain ⟨p', e', hp', z0, z1, z2, z3, z4, z5, hz⟩ := hpr; have e6 := e'.symm.trans E4.out; injection e6 with e6; injection e6 with e6; injection e6 with e6; subst e6; refine ⟨_, e', hp', ?_⟩; rw [set6 HX.out]; exact ⟨_, _, _, _, _, _, setRow_heap _ _ _ _ _ _ HX.out⟩)) | exact fun h => h
              · refine StepOf.introL (i := 5) rfl (some 50) rfl [4, 2, 3, 1, 0] [49] [0, 1, 2, 3, 4, 6, 7, 8, 9, 10, 11, 14, 15, 19] (by kernel_rfl) ?_
                intro σ aa ww sS sF sU sA K hK
                have f4 : (fun σ _ => σ 4 = .slice (some ⟨bk, o + 8, none⟩) 8 (cp - 8)) σ ww := sF.1; try dsimp only at f4
                clear sF
                have sl49 := AllSlots.cons_who (j := 4) sA (by kernel_rfl)
                replace sA := sA.2
                clear sA
                try (have SS := Lib.hid sS; have c16 : ww.cell? ⟨bk, o + 16, none⟩ = some (.int .u8 (n2 : Int)) := by { have := sS.1 16 (by have := HWJ.out.1; omega); rw [this, ← HN2.out]; rfl })
                try (obtain ⟨p, e4, hp, x0, x1, x2, x3, x4, x5, hx⟩ := f19; rw [e4] at sl7; have c0 := cell_row hx 0; have c1 := cell_row hx 1; have c2 := cell_row hx 2; have c3 := cell_row hx 3; have c4 := cell_row hx 4; have c5 := cell_row hx 5; have r0 := free_row hx 0; have r1 := free_row hx 1; have r2 := free_row hx 2; have r3 := free_row hx 3; have r4 := free_row hx 4; have r5 := free_row hx 5; have HX := Lib.hid hx; have E4 := Lib.hid e4; clear hx)
                try rw [f4] at sl49
                try go_simp
                first | (go_at_call 60; with_reducible refine ((q0 _ SS.out.1).out).mono ?_; rintro e w2 ⟨rfl, rfl⟩) | (go_at_call 60; with_reducible refine ((q1 _ SS.out.1).out).mono ?_; rintro e w2 ⟨rfl, rfl⟩) | (go_at_call 60; with_reducible refine ((q3 _ SS.out.1).out).mono ?_; rintro e w2 ⟨rfl, rfl⟩) | (go_at_call 60; with_reducible refine ((q4 _ SS.out.1).out).mono ?_; rintro e w2 ⟨rfl, rfl⟩)
                refine Shut.out hK _ _ ?_ ?_ ?_
                · (try clear hK)
                  (try dsimp only)
                  first | (with_reducible exact SS.out) | (with_reducible exact hS4) | (with_reducible exact ⟨SS.out.1.below ((Below.refl _ _).alloc (Nat.le_refl _) _), SS.out.2.alloc SS.out.2.size _⟩) | (rw [set6 HX.out]; exact ⟨rdb_row SS.out.1 (by omega), below_row SS.out.2 hp⟩)
                · (try clear hK)
                  simp only [nthF]
                  (try simp only [upd, if_true, if_false, Nat.reduceEqDiff, reduceIte])
                  first | done | trivial | rfl
                · refine ⟨?_, ?_, ?_, ?_, ?_, ?_, ?_, ?_, ?_, ?_, ?_, ?_, ?_, ?_, trivial⟩
                  all_goals (try clear hK)
                  all_goals simp only [nthF]
                  all_goals (try simp only [upd, if_true, if_false, Nat.reduceEqDiff, reduceIte])
                  all_goals first | done | with_reducible exact fun h => h | exact (fun _ => trivial) | (intro hpr; first | (with_reducible exact hpr) | (obtain ⟨p', e', hp', z0, z1, z2, z3, z4, z5, hz⟩ := hpr; have e6 := e'.symm.trans E4.out; injection e6 with e6; injection e6 with e6; injection e6 with e6; subst e6; refine ⟨_, e', hp', ?_⟩; rw [set6 HX.out]; exact ⟨_, _, _, _, _, _, setRow_heap _ _ _ _ _ _ HX.out⟩)) | exact fun h => h
              · refine StepOf.introL (i := 6) rfl (some 51) rfl [] [5] [0, 1, 2, 3, 4, 5, 10, 11, 12, 13, 14, 15, 16, 17, 19] (by kernel_rfl) ?_
                intro σ aa ww sS sF sU sA K hK
                clear sF
                have sl5 := AllSlots.cons_none sA (by kernel_rfl)
                try simp only [List.getElem?_toArray, List.getElem?_cons_succ, List.getElem?_cons_zero] at sl5
                replace sA := sA.2
                clear sA
                try (have SS := Lib.hid sS; have c16 : ww.cell? ⟨bk, o + 16, none⟩ = some (.int .u8 (n2 : Int)) := by { have := sS.1 16 (by have := HWJ.out.1; omega); rw [this, ← HN2.out]; rfl })
                try (obtain ⟨p, e4, hp, x0, x1, x2, x3, x4, x5, hx⟩ := f19; rw [e4] at sl7; have c0 := cell_row hx 0; have c1 := cell_row hx 1; have c2 := cell_row hx 2; have c3 := cell_row hx 3; have c4 := cell_row hx 4; have c5 := cell_row hx 5; have r0 := free_row hx 0; have r1 := free_row hx 1; have r2 := free_row hx 2; have r3 := free_row hx 3; have r4 := free_row hx 4; have r5 := free_row hx 5; have HX := Lib.hid hx; have E4 := Lib.hid e4; clear hx)
                try go_simp
                refine Shut.out hK _ _ ?_ ?_ ?_
                · (try clear hK)
                  (try dsimp only)
                  first | (with_reducible exact SS.out) | (with_reducible exact hS4) | (with_reducible exact ⟨SS.out.1.below ((Below.refl _ _).alloc (Nat.le_refl _) _), SS.out.2.alloc SS.out.2.size _⟩) | (rw [set6 HX.out]; exact ⟨rdb_row SS.out.1 (by omega), below_row SS.out.2 hp⟩)
                · (try clear hK)
                  simp only [nthF]
                  (try simp only [upd, if_true, if_false, Nat.reduceEqDiff, reduceIte])
                  first | done | trivial | rfl
                · refine ⟨?_, ?_, ?_, ?_, ?_, ?_, ?_, ?_, ?_, ?_, ?_, ?_, ?_, ?_, ?_, trivial⟩
                  all_goals (try clear hK)
                  all_goals simp only [nthF]
                  all_goals (try simp only [upd, if_true, if_false, Nat.reduceEqDiff, reduceIte])
                  all_goals first | done | with_reducible exact fun h => h | exact (fun _ => trivial) | (intro hpr; first | (with_reducible exact hpr) | (obtain ⟨p', e', hp', z0, z1, z2, z3, z4, z5, hz⟩ := hpr; have e6 := e'.symm.trans E4.out; injection e6 with e6; injection e6 with e6; injection e6 with e6; subst e6; refine ⟨_, e', hp', ?_⟩; rw [set6 HX.out]; exact ⟨_, _, _, _, _, _, setRow_heap _ _ _ _ _ _ HX.out⟩)) | exact fun h => h
              · refine StepOf.introL (i := 7) rfl (some 52) rfl [6] [51] [0, 1, 2, 3, 4, 5, 6, 10, 11, 12, 13, 14, 15, 16, 17, 19] (by kernel_rfl) ?_
                intro σ aa ww sS sF sU sA K hK
                have f6 : (fun σ _ => σ 6 = .slice (some ⟨bk, o, none⟩) b.length cp) σ ww := sF.1; try dsimp only at f6
                clear sF
                have sl51 := AllSlots.cons_who (j := 6) sA (by kernel_rfl)
                replace sA := sA.2
                clear sA
                try (have SS := Lib.hid sS; have c16 : ww.cell? ⟨bk, o + 16, none⟩ = some (.int .u8 (n2 : Int)) := by { have := sS.1 16 (by have := HWJ.out.1; omega); rw [this, ← HN2.out]; rfl })
                try (obtain ⟨p, e4, hp, x0, x1, x2, x3, x4, x5, hx⟩ := f19; rw [e4] at sl7; have c0 := cell_row hx 0; have c1 := cell_row hx 1; have c2 := cell_row hx 2; have c3 := cell_row hx 3; have c4 := cell_row hx 4; have c5 := cell_row hx 5; have r0 := free_row hx 0; have r1 := free_row hx 1; have r2 := free_row hx 2; have r3 := free_row hx 3; have r4 := free_row hx 4; have r5 := free_row hx 5; have HX := Lib.hid hx; have E4 := Lib.hid e4; clear hx)
                try rw [f6] at sl51
                try go_simp
                refine Shut.out hK _ _ ?_ ?_ ?_
                · (try clear hK)
                  (try dsimp only)
                  first | (with_reducible exact SS.out) | (with_reducible exact hS4) | (with_reducible exact ⟨SS.out.1.below ((Below.refl _ _).alloc (Nat.le_refl _) _), SS.out.2.alloc SS.out.2.size _⟩) | (rw [set6 HX.out]; exact ⟨rdb_row SS.out.1 (by omega), below_row SS.out.2 hp⟩)
                · (try clear hK)
                  simp only [nthF]
                  (try simp only [upd, if_true, if_false, Nat.reduceEqDiff, reduceIte])
                  first | done | trivial | rfl
                · refine ⟨?_, ?_, ?_, ?_, ?_, ?_, ?_, ?_, ?_, ?_, ?_, ?_, ?_, ?_, ?_, ?_, trivial⟩
                  all_goals (try clear hK)
                  all_goals simp only [nthF]
                  all_goals (try simp only [upd, if_true, if_false, Nat.reduceEqDiff, reduceIte])
                  all_goals first | done | with_reducible exact fun h => h | exact (fun _ => trivial) | (intro hpr; first | (with_reducible exact hpr) | (obtain ⟨p', e', hp', z0, z1, z2, z3, z4, z5, hz⟩ := hpr; have e6 := e'.symm.trans E4.out; injection e6 with e6; injection e6 with e6; injection e6 with e6; subst e6; refine ⟨_, e', hp', ?_⟩; rw [set6 HX.out]; exact ⟨_, _, _, _, _, _, setRow_heap _ _ _ _ _ _ HX.out⟩)) | exact fun h => h
              · refine StepOf.introL (i := 8) rfl (some 53) rfl [7, 6] [52] [0, 1, 2, 3, 4, 5, 6, 7, 10, 11, 12, 13, 14, 15, 16, 17, 19] (by kernel_rfl) ?_
                intro σ aa ww sS sF sU sA K hK
                have f7 : (fun σ _ => σ 7 = .pointer (some ⟨bk, o + 16, none⟩)) σ ww := sF.1; try dsimp only at f7
                clear sF
                have sl52 := AllSlots.cons_who (j := 7) sA (by kernel_rfl)
                replace sA := sA.2
                clear sA
                try (have SS := Lib.hid sS; have c16 : ww.cell? ⟨bk, o + 16, none⟩ = some (.int .u8 (n2 : Int)) := by { have := sS.1 16 (by have := HWJ.out.1; omega); rw [this, ← HN2.out]; rfl })
                try (obtain ⟨p, e4, hp, x0, x1, x2, x3, x4, x5, hx⟩ := f19; rw [e4] at sl7; have c0 := cell_row hx 0; have c1 := cell_row hx 1; have c2 := cell_row hx 2; have c3 := cell_row hx 3; have c4 := cell_row hx 4; have c5 := cell_row hx 5; have r0 := free_row hx 0; have r1 := free_row hx 1; have r2 := free_row hx 2; have r3 := free_row hx 3; have r4 := free_row hx 4; have r5 := free_row hx 5; have HX := Lib.hid hx; have E4 := Lib.hid e4; clear hx)
                try rw [f7] at sl52
                try go_simp
                refine Shut.out hK _ _ ?_ ?_ ?_
                · (try clear hK)
                  (try dsimp only)
                  first | (with_reducible exact SS.out) | (with_reducible exact hS4) | (with_reducible exact ⟨SS.out.1.below ((Below.refl _ _).alloc (Nat.le_refl _) _), SS.out.2.alloc SS.out.2.size _⟩) | (rw [set6 HX.out]; exact ⟨rdb_row SS.out.1 (by omega), below_row SS.out.2 hp⟩)
                · (try clear hK)
                  simp only [nthF]
                  (try simp only [upd, if_true, if_false, Nat.reduceEqDiff, reduceIte])
                  first | done | trivial | rfl
                · refine ⟨?_, ?_, ?_, ?_, ?_, ?_, ?_, ?_, ?_, ?_, ?_, ?_, ?_, ?_, ?_, ?_, ?_, trivial⟩
                  all_goals (try clear hK)
                  all_goals simp only [nthF]
                  all_goals (try simp only [upd, if_true, if_false, Nat.reduceEqDiff, reduceIte])
                  all_goals first | done | with_reducible exact fun h => h | exact (fun _ => trivial) | (intro hpr; first | (with_reducible exact hpr) | (obtain ⟨p', e', hp', z0, z1, z2, z3, z4, z5, hz⟩ := hpr; have e6 := e'.symm.trans E4.out; injection e6 with e6; injection e6 with e6; injection e6 with e6; subst e6; refine ⟨_, e', hp', ?_⟩; rw [set6 HX.out]; exact ⟨_, _, _, _, _, _, setRow_heap _ _ _ _ _ _ HX.out⟩)) | exact fun h => h
              · refine StepOf.introL (i := 9) rfl (some 54) rfl [8, 7, 6] [53] [0, 1, 2, 3, 4, 5, 6, 7, 8, 10, 11, 12, 13, 14, 15, 16, 17, 19] (by kernel_rfl) ?_
                intro σ aa ww sS sF sU sA K hK
                have f8 : (fun σ _ => σ 8 = .int .u8 (n2 : Int)) σ ww := sF.1; try dsimp only at f8
                clear sF
                have sl53 := AllSlots.cons_who (j := 8) sA (by kernel_rfl)
                replace sA := sA.2
                clear sA
                try (have SS := Lib.hid sS; have c16 : ww.cell? ⟨bk, o + 16, none⟩ = some (.int .u8 (n2 : Int)) := by { have := sS.1 16 (by have := HWJ.out.1; omega); rw [this, ← HN2.out]; rfl })
                try (obtain ⟨p, e4, hp, x0, x1, x2, x3, x4, x5, hx⟩ := f19; rw [e4] at sl7; have c0 := cell_row hx 0; have c1 := cell_row hx 1; have c2 := cell_row hx 2; have c3 := cell_row hx 3; have c4 := cell_row hx 4; have c5 := cell_row hx 5; have r0 := free_row hx 0; have r1 := free_row hx 1; have r2 := free_row hx 2; have r3 := free_row hx 3; have r4 := free_row hx 4; have r5 := free_row hx 5; have HX := Lib.hid hx; have E4 := Lib.hid e4; clear hx)
                try rw [f8] at sl53
                try go_simp
                refine Shut.out hK _ _ ?_ ?_ ?_
                · (try clear hK)
                  (try dsimp only)
                  first | (with_reducible exact SS.out) | (with_reducible exact hS4) | (with_reducible exact ⟨SS.out.1.below ((Below.refl _ _).alloc (Nat.le_refl _) _), SS.out.2.alloc SS.out.2.size _⟩) | (rw [set6 HX.out]; exact ⟨rdb_row SS.out.1 (by omega), below_row SS.out.2 hp⟩)
                · (try clear hK)
                  simp only [nthF]
                  (try simp only [upd, if_true, if_false, Nat.reduceEqDiff, reduceIte])
                  first | done | trivial | rfl
                · refine ⟨?_, ?_, ?_, ?_, ?_, ?_, ?_, ?_, ?_, ?_, ?_, ?_, ?_, ?_, ?_, ?_, ?_, ?_, trivial⟩
                  all_goals (try clear hK)
                  all_goals simp only [nthF]
                  all_goals (try simp only [upd, if_true, if_false, Nat.reduceEqDiff, reduceIte])
                  all_goals first | done | with_reducible exact fun h => h | exact (fun _ => trivial) | (intro hpr; first | (with_reducible exact hpr) | (obtain ⟨p', e', hp', z0, z1, z2, z3, z4, z5, hz⟩ := hpr; have e6 := e'.symm.trans E4.out; injection e6 with e6; injection e6 with e6; injection e6 with e6; subst e6; refine ⟨_, e', hp', ?_⟩; rw [set6 HX.out]; exact ⟨_, _, _, _, _, _, setRow_heap _ _ _ _ _ _ HX.out⟩)) | exact fun h => h
              · refine StepOf.introL (i := 10) rfl (some 55) rfl [] [5] [0, 1, 2, 3, 4, 5, 6, 7, 8, 9, 14, 15, 19] (by kernel_rfl) ?_
                intro σ aa ww sS sF sU sA K hK
                clear sF
                have sl5 := AllSlots.cons_none sA (by kernel_rfl)
                try simp only [List.getElem?_toArray, List.getElem?_cons_succ, List.getElem?_cons_zero] at sl5
                replace sA := sA.2
                clear sA
                try (have SS := Lib.hid sS; have c16 : ww.cell? ⟨bk, o + 16, none⟩ = some (.int .u8 (n2 : Int)) := by { have := sS.1 16 (by have := HWJ.out.1; omega); rw [this, ← HN2.out]; rfl })
                try (obtain ⟨p, e4, hp, x0, x1, x2, x3, x4, x5, hx⟩ := f19; rw [e4] at sl7; have c0 := cell_row hx 0; have c1 := cell_row hx 1; have c2 := cell_row hx 2; have c3 := cell_row hx 3; have c4 := cell_row hx 4; have c5 := cell_row hx 5; have r0 := free_row hx 0; have r1 := free_row hx 1; have r2 := free_row hx 2; have r3 := free_row hx 3; have r4 := free_row hx 4; have r5 := free_row hx 5; have HX := Lib.hid hx; have E4 := Lib.hid e4; clear hx)
                try go_simp
                refine Shut.out hK _ _ ?_ ?_ ?_
                · (try clear hK)
                  (try dsimp only)
                  first | (with_reducible exact SS.out) | (with_reducible exact hS4) | (with_reducible exact ⟨SS.out.1.below ((Below.refl _ _).alloc (Nat.le_refl _) _), SS.out.2.alloc SS.out.2.size _⟩) | (rw [set6 HX.out]; exact ⟨rdb_row SS.out.1 (by omega), below_row SS.out.2 hp⟩)
                · (try clear hK)
                  simp only [nthF]
                  (try simp only [upd, if_true, if_false, Nat.reduceEqDiff, reduceIte])
                  first | done | trivial | rfl
                · refine ⟨?_, ?_, ?_, ?_, ?_, ?_, ?_, ?_, ?_, ?_, ?_, ?_, ?_, trivial⟩
                  all_goals (try clear hK)
                  all_goals simp only [nthF]
                  all_goals (try simp only [upd, if_true, if_false, Nat.reduceEqDiff, reduceIte])
                  all_goals first | done | with_reducible exact fun h => h | exact (fun _ => trivial) | (intro hpr; first | (with_reducible exact hpr) | (obtain ⟨p', e', hp', z0, z1, z2, z3, z4, z5, hz⟩ := hpr; have e6 := e'.symm.trans E4.out; injection e6 with e6; injection e6 with e6; injection e6 with e6; subst e6; refine ⟨_, e', hp', ?_⟩; rw [set6 HX.out]; exact ⟨_, _, _, _, _, _, setRow_heap _ _ _ _ _ _ HX.out⟩)) | exact fun h => h
              · refine StepOf.introL (i := 11) rfl (some 56) rfl [10] [55] [0, 1, 2, 3, 4, 5, 6, 7, 8, 9, 10, 14, 15, 19] (by kernel_rfl) ?_
                intro σ aa ww sS sF sU sA K hK
                have f10 : (fun σ _ => σ 10 = .slice (some ⟨bk, o, none⟩) b.length cp) σ ww := sF.1; try dsimp only at f10
                clear sF
                have sl55 := AllSlots.cons_who (j := 10) sA (by kernel_rfl)
                replace sA := sA.2
                clear sA
                try (have SS := Lib.hid sS; have c16 : ww.cell? ⟨bk, o + 16, none⟩ = some (.int .u8 (n2 : Int)) := by { have := sS.1 16 (by have := HWJ.out.1; omega); rw [this, ← HN2.out]; rfl })
                try (obtain ⟨p, e4, hp, x0, x1, x2, x3, x4, x5, hx⟩ := f19; rw [e4] at sl7; have c0 := cell_row hx 0; have c1 := cell_row hx 1; have c2 := cell_row hx 2; have c3 := cell_row hx 3; have c4 := cell_row hx 4; have c5 := cell_row hx 5; have r0 := free_row hx 0; have r1 := free_row hx 1; have r2 := free_row hx 2; have r3 := free_row hx 3; have r4 := free_row hx 4; have r5 := free_row hx 5; have HX := Lib.hid hx; have E4 := Lib.hid e4; clear hx)
                try rw [f10] at sl55
                try go_simp
                refine Shut.out hK _ _ ?_ ?_ ?_
                · (try clear hK)
                  (try dsimp only)
                  first | (with_reducible exact SS.out) | (with_reducible exact hS4) | (with_reducible exact ⟨SS.out.1.below ((Below.refl _ _).alloc (Nat.le_refl _) _), SS.out.2.alloc SS.out.2.size _⟩) | (rw [set6 HX.out]; exact ⟨rdb_row SS.out.1 (by omega), below_row SS.out.2 hp⟩)
                · (try clear hK)
                  simp only [nthF]
                  (try simp only [upd, if_true, if_false, Nat.reduceEqDiff, reduceIte])
                  first | done | trivial | rfl
                · refine ⟨?_, ?_, ?_, ?_, ?_, ?_, ?_, ?_, ?_, ?_, ?_, ?_, ?_, ?_, trivial⟩
                  all_goals (try clear hK)
                  all_goals simp only [nthF]
                  all_goals (try simp only [upd, if_true, if_false, Nat.reduceEqDiff, reduceIte])
                  all_goals first | done | with_reducible exact fun h => h | exact (fun _ => trivial) | (intro hpr; first | (with_reducible exact hpr) | (obtain ⟨p', e', hp', z0, z1, z2, z3, z4, z5, hz⟩ := hpr; have e6 := e'.symm.trans E4.out; injection e6 with e6; injection e6 with e6; injection e6 with e6; subst e6; refine ⟨_, e', hp', ?_⟩; rw [set6 HX.out]; exact ⟨_, _, _, _, _, _, setRow_heap _ _ _ _ _ _ HX.out⟩)) | exact fun h => h
              · refine StepOf.introL (i := 12) rfl (some 57) rfl [11, 5, 10, 4, 2, 3, 1, 0] [56] [0, 1, 2, 3, 4, 5, 6, 7, 8, 9, 10, 11, 14, 15, 19] (by kernel_rfl) ?_
                intro σ aa ww sS sF sU sA K hK
                have f11 : (fun σ _ => σ 11 = .slice (some ⟨bk, o + 18, none⟩) 2 (cp - 18)) σ ww := sF.1; try dsimp only at f11
                clear sF
                have sl56 := AllSlots.cons_who (j := 11) sA (by kernel_rfl)
                replace sA := sA.2
                clear sA
                try (have SS := Lib.hid sS; have c16 : ww.cell? ⟨bk, o + 16, none⟩ = some (.int .u8 (n2 : Int)) := by { have := sS.1 16 (by have := HWJ.out.1; omega); rw [this, ← HN2.out]; rfl })
                try (obtain ⟨p, e4, hp, x0, x1, x2, x3, x4, x5, hx⟩ := f19; rw [e4] at sl7; have c0 := cell_row hx 0; have c1 := cell_row hx 1; have c2 := cell_row hx 2; have c3 := cell_row hx 3; have c4 := cell_row hx 4; have c5 := cell_row hx 5; have r0 := free_row hx 0; have r1 := free_row hx 1; have r2 := free_row hx 2; have r3 := free_row hx 3; have r4 := free_row hx 4; have r5 := free_row hx 5; have HX := Lib.hid hx; have E4 := Lib.hid e4; clear hx)
                try rw [f11] at sl56
                try go_simp
                first | (go_at_call 60; with_reducible refine ((q0 _ SS.out.1).out).mono ?_; rintro e w2 ⟨rfl, rfl⟩) | (go_at_call 60; with_reducible refine ((q1 _ SS.out.1).out).mono ?_; rintro e w2 ⟨rfl, rfl⟩) | (go_at_call 60; with_reducible refine ((q3 _ SS.out.1).out).mono ?_; rintro e w2 ⟨rfl, rfl⟩) | (go_at_call 60; with_reducible refine ((q4 _ SS.out.1).out).mono ?_; rintro e w2 ⟨rfl, rfl⟩)
                refine Shut.out hK _ _ ?_ ?_ ?_
                · (try clear hK)
                  (try dsimp only)
                  first | (with_reducible exact SS.out) | (with_reducible exact hS4) | (with_reducible exact ⟨SS.out.1.below ((Below.refl _ _).alloc (Nat.le_refl _) _), SS.out.2.alloc SS.out.2.size _⟩) | (rw [set6 HX.out]; exact ⟨rdb_row SS.out.1 (by omega), below_row SS.out.2 hp⟩)
                · (try clear hK)
                  simp only [nthF]
                  (try simp only [upd, if_true, if_false, Nat.reduceEqDiff, reduceIte])
                  first | done | trivial | rfl
                · refine ⟨?_, ?_, ?_, ?_, ?_, ?_, ?_, ?_, ?_, ?_, ?_, ?_, ?_, ?_, ?_, trivial⟩
                  all_goals (try clear hK)
                  all_goals simp only [nthF]
                  all_goals (try simp only [upd, if_true, if_false, Nat.reduceEqDiff, reduceIte])
                  all_goals first | done | with_reducible exact fun h => h | exact (fun _ => trivial) | (intro hpr; first | (with_reducible exact hpr) | (obtain ⟨p', e', hp', z0, z1, z2, z3, z4, z5, hz⟩ := hpr; have e6 := e'.symm.trans E4.out; injection e6 with e6; injection e6 with e6; injection e6 with e6; subst e6; refine ⟨_, e', hp', ?_⟩; rw [set6 HX.out]; exact ⟨_, _, _, _, _, _, setRow_heap _ _ _ _ _ _ HX.out⟩)) | exact fun h => h
              · refine StepOf.introL (i := 13) rfl (some 58) rfl [12, 11, 5, 10, 4, 2, 3, 1, 0] [57] [0, 1, 2, 3, 4, 5, 6, 7, 8, 9, 10, 11, 12, 14, 15, 16, 17, 19] (by kernel_rfl) ?_
                intro σ aa ww sS sF sU sA K hK
                have f12 : (fun σ _ => σ 12 = .int .u64 (n3 : Int)) σ ww := sF.1; try dsimp only at f12
                clear sF
                have sl57 := AllSlots.cons_who (j := 12) sA (by kernel_rfl)
                replace sA := sA.2
                clear sA
                try (have SS := Lib.hid sS; have c16 : ww.cell? ⟨bk, o + 16, none⟩ = some (.int .u8 (n2 : Int)) := by { have := sS.1 16 (by have := HWJ.out.1; omega); rw [this, ← HN2.out]; rfl })
                try (obtain ⟨p, e4, hp, x0, x1, x2, x3, x4, x5, hx⟩ := f19; rw [e4] at sl7; have c0 := cell_row hx 0; have c1 := cell_row hx 1; have c2 := cell_row hx 2; have c3 := cell_row hx 3; have c4 := cell_row hx 4; have c5 := cell_row hx 5; have r0 := free_row hx 0; have r1 := free_row hx 1; have r2 := free_row hx 2; have r3 := free_row hx 3; have r4 := free_row hx 4; have r5 := free_row hx 5; have HX := Lib.hid hx; have E4 := Lib.hid e4; clear hx)
                try rw [f12] at sl57
                try go_simp
                refine Shut.out hK _ _ ?_ ?_ ?_
                · (try clear hK)
                  (try dsimp only)
                  first | (with_reducible exact SS.out) | (with_reducible exact hS4) | (with_reducible exact ⟨SS.out.1.below ((Below.refl _ _).alloc (Nat.le_refl _) _), SS.out.2.alloc SS.out.2.size _⟩) | (rw [set6 HX.out]; exact ⟨rdb_row SS.out.1 (by omega), below_row SS.out.2 hp⟩)
                · (try clear hK)
                  simp only [nthF]
                  (try simp only [upd, if_true, if_false, Nat.reduceEqDiff, reduceIte])
                  first | done | trivial | rfl
                · refine ⟨?_, ?_, ?_, ?_, ?_, ?_, ?_, ?_, ?_, ?_, ?_, ?_, ?_, ?_, ?_, ?_, ?_, ?_, trivial⟩
                  all_goals (try clear hK)
                  all_goals simp only [nthF]
                  all_goals (try simp only [upd, if_true, if_false, Nat.reduceEqDiff, reduceIte])
                  all_goals first | done | with_reducible exact fun h => h | exact (fun _ => trivial) | (intro hpr; first | (with_reducible exact hpr) | (obtain ⟨p', e', hp', z0, z1, z2, z3, z4, z5, hz⟩ := hpr; have e6 := e'.symm.trans E4.out; injection e6 with e6; injection e6 with e6; injection e6 with e6; subst e6; refine ⟨_, e', hp', ?_⟩; rw [set6 HX.out]; exact ⟨_, _, _, _, _, _, setRow_heap _ _ _ _ _ _ HX.out⟩)) | exact fun h => h
              · refine StepOf.introL (i := 14) rfl (some 59) rfl [] [5] [0, 1, 2, 3, 4, 5, 6, 7, 8, 9, 10, 11, 12, 13, 19] (by kernel_rfl) ?_
                intro σ aa ww sS sF sU sA K hK
                clear sF
                have sl5 := AllSlots.cons_none sA (by kernel_rfl)
                try simp only [List.getElem?_toArray, List.getElem?_cons_succ, List.getElem?_cons_zero] at sl5
                replace sA := sA.2
                clear sA
                try (have SS := Lib.hid sS; have c16 : ww.cell? ⟨bk, o + 16, none⟩ = some (.int .u8 (n2 : Int)) := by { have := sS.1 16 (by have := HWJ.out.1; omega); rw [this, ← HN2.out]; rfl })
                try (obtain ⟨p, e4, hp, x0, x1, x2, x3, x4, x5, hx⟩ := f19; rw [e4] at sl7; have c0 := cell_row hx 0; have c1 := cell_row hx 1; have c2 := cell_row hx 2; have c3 := cell_row hx 3; have c4 := cell_row hx 4; have c5 := cell_row hx 5; have r0 := free_row hx 0; have r1 := free_row hx 1; have r2 := free_row hx 2; have r3 := free_row hx 3; have r4 := free_row hx 4; have r5 := free_row hx 5; have HX := Lib.hid hx; have E4 := Lib.hid e4; clear hx)
                try go_simp
                refine Shut.out hK _ _ ?_ ?_ ?_
                · (try clear hK)
                  (try dsimp only)
                  first | (with_reducible exact SS.out) | (with_reducible exact hS4) | (with_reducible exact ⟨SS.out.1.below ((Below.refl _ _).alloc (Nat.le_refl _) _), SS.out.2.alloc SS.out.2.size _⟩) | (rw [set6 HX.out]; exact ⟨rdb_row SS.out.1 (by omega), below_row SS.out.2 hp⟩)
                · (try clear hK)
                  simp only [nthF]
                  (try simp only [upd, if_true, if_false, Nat.reduceEqDiff, reduceIte])
                  first | done | trivial | rfl
                · refine ⟨?_, ?_, ?_, ?_, ?_, ?_, ?_, ?_, ?_, ?_, ?_, ?_, ?_, ?_, ?_, trivial⟩
                  all_goals (try clear hK)
                  all_goals simp only [nthF]
                  all_goals (try simp only [upd, if_true, if_false, Nat.reduceEqDiff, reduceIte])
                  all_goals first | done | with_reducible exact fun h => h | exact (fun _ => trivial) | (intro hpr; first | (with_reducible exact hpr) | (obtain ⟨p', e', hp', z0, z1, z2, z3, z4, z5, hz⟩ := hpr; have e6 := e'.symm.trans E4.out; injection e6 with e6; injection e6 with e6; injection e6 with e6; subst e6; refine ⟨_, e', hp', ?_⟩; rw [set6 HX.out]; exact ⟨_, _, _, _, _, _, setRow_heap _ _ _ _ _ _ HX.out⟩)) | exact fun h => h
              · refine StepOf.introL (i := 15) rfl (some 60) rfl [14] [59] [0, 1, 2, 3, 4, 5, 6, 7, 8, 9, 10, 11, 12, 13, 14, 19] (by kernel_rfl) ?_
                intro σ aa ww sS sF sU sA K hK
                have f14 : (fun σ _ => σ 14 = .slice (some ⟨bk, o, none⟩) b.length cp) σ ww := sF.1; try dsimp only at f14
                clear sF
                have sl59 := AllSlots.cons_who (j := 14) sA (by kernel_rfl)
                replace sA := sA.2
                clear sA
                try (have SS := Lib.hid sS; have c16 : ww.cell? ⟨bk, o + 16, none⟩ = some (.int .u8 (n2 : Int)) := by { have := sS.1 16 (by have := HWJ.out.1; omega); rw [this, ← HN2.out]; rfl })
                try (obtain ⟨p, e4, hp, x0, x1, x2, x3, x4, x5, hx⟩ := f19; rw [e4] at sl7; have c0 := cell_row hx 0; have c1 := cell_row hx 1; have c2 := cell_row hx 2; have c3 := cell_row hx 3; have c4 := cell_row hx 4; have c5 := cell_row hx 5; have r0 := free_row hx 0; have r1 := free_row hx 1; have r2 := free_row hx 2; have r3 := free_row hx 3; have r4 := free_row hx 4; have r5 := free_row hx 5; have HX := Lib.hid hx; have E4 := Lib.hid e4; clear hx)
                try rw [f14] at sl59
                try go_simp
                refine Shut.out hK _ _ ?_ ?_ ?_
                · (try clear hK)
                  (try dsimp only)
                  first | (with_reducible exact SS.out) | (with_reducible exact hS4) | (with_reducible exact ⟨SS.out.1.below ((Below.refl _ _).alloc (Nat.le_refl _) _), SS.out.2.alloc SS.out.2.size _⟩) | (rw [set6 HX.out]; exact ⟨rdb_row SS.out.1 (by omega), below_row SS.out.2 hp⟩)
                · (try clear hK)
                  simp only [nthF]
                  (try simp only [upd, if_true, if_false, Nat.reduceEqDiff, reduceIte])
                  first | done | trivial | rfl
                · refine ⟨?_, ?_, ?_, ?_, ?_, ?_, ?_, ?_, ?_, ?_, ?_, ?_, ?_, ?_, ?_, ?_, trivial⟩
                  all_goals (try clear hK)
                  all_goals simp only [nthF]
                  all_goals (try simp only [upd, if_true, if_false, Nat.reduceEqDiff, reduceIte])
                  all_goals first | done | with_reducible exact fun h => h | exact (fun _ => trivial) | (intro hpr; first | (with_reducible exact hpr) | (obtain ⟨p', e', hp', z0, z1, z2, z3, z4, z5, hz⟩ := hpr; have e6 := e'.symm.trans E4.out; injection e6 with e6; injection e6 with e6; injection e6 with e6; subst e6; refine ⟨_, e', hp', ?_⟩; rw [set6 HX.out]; exact ⟨_, _, _, _, _, _, setRow_heap _ _ _ _ _ _ HX.out⟩)) | exact fun h => h
              · refine StepOf.introL (i := 16) rfl (some 61) rfl [15, 12, 14, 11, 5, 10, 4, 2, 3, 1, 0] [60] [0, 1, 2, 3, 4, 5, 6, 7, 8, 9, 10, 11, 12, 13, 14, 15, 19] (by kernel_rfl) ?_
                intro σ aa ww sS sF sU sA K hK
                have f15 : (fun σ _ => σ 15 = .slice (some ⟨bk, o + 20, none⟩) 4 (cp - 20)) σ ww := sF.1; try dsimp only at f15
                clear sF
                have sl60 := AllSlots.cons_who (j := 15) sA (by kernel_rfl)
                replace sA := sA.2
                clear sA
                try (have SS := Lib.hid sS; have c16 : ww.cell? ⟨bk, o + 16, none⟩ = some (.int .u8 (n2 : Int)) := by { have := sS.1 16 (by have := HWJ.out.1; omega); rw [this, ← HN2.out]; rfl })
                try (obtain ⟨p, e4, hp, x0, x1, x2, x3, x4, x5, hx⟩ := f19; rw [e4] at sl7; have c0 := cell_row hx 0; have c1 := cell_row hx 1; have c2 := cell_row hx 2; have c3 := cell_row hx 3; have c4 := cell_row hx 4; have c5 := cell_row hx 5; have r0 := free_row hx 0; have r1 := free_row hx 1; have r2 := free_row hx 2; have r3 := free_row hx 3; have r4 := free_row hx 4; have r5 := free_row hx 5; have HX := Lib.hid hx; have E4 := Lib.hid e4; clear hx)
                try rw [f15] at sl60
                try go_simp
                first | (go_at_call 60; with_reducible refine ((q0 _ SS.out.1).out).mono ?_; rintro e w2 ⟨rfl, rfl⟩) | (go_at_call 60; with_reducible refine ((q1 _ SS.out.1).out).mono ?_; rintro e w2 ⟨rfl, rfl⟩) | (go_at_call 60; with_reducible refine ((q3 _ SS.out.1).out).mono ?_; rintro e w2 ⟨rfl, rfl⟩) | (go_at_call 60; with_reducible refine ((q4 _ SS.out.1).out).mono ?_; rintro e w2 ⟨rfl, rfl⟩)
                refine Shut.out hK _ _ ?_ ?_ ?_
                · (try clear hK)
                  (try dsimp only)
                  first | (with_reducible exact SS.out) | (with_reducible exact hS4) | (with_reducible exact ⟨SS.out.1.below ((Below.refl _ _).alloc (Nat.le_refl _) _), SS.out.2.alloc SS.out.2.size _⟩) | (rw [set6 HX.out]; exact ⟨rdb_row SS.out.1 (by omega), below_row SS.out.2 hp⟩)
                · (try clear hK)
                  simp only [nthF]
                  (try simp only [upd, if_true, if_false, Nat.reduceEqDiff, reduceIte])
                  first | done | trivial | rfl
                · refine ⟨?_, ?_, ?_, ?_, ?_, ?_, ?_, ?_, ?_, ?_, ?_, ?_, ?_, ?_, ?_, ?_, ?_, trivial⟩
                  all_goals (try clear hK)
                  all_goals simp only [nthF]
                  all_goals (try simp only [upd, if_true, if_false, Nat.reduceEqDiff, reduceIte])
                  all_goals first | done | with_reducible exact fun h => h | exact (fun _ => trivial) | (intro hpr; first | (with_reducible exact hpr) | (obtain ⟨p', e', hp', z0, z1, z2, z3, z4, z5, hz⟩ := hpr; have e6 := e'.symm.trans E4.out; injection e6 with e6; injection e6 with e6; injection e6 with e6; subst e6; refine ⟨_, e', hp', ?_⟩; rw [set6 HX.out]; exact ⟨_, _, _, _, _, _, setRow_heap _ _ _ _ _ _ HX.out⟩)) | exact fun h => h
              · refine StepOf.introL (i := 17) rfl (some 62) rfl [16, 15, 12, 14, 11, 5, 10, 4, 2, 3, 1, 0] [61] [0, 1, 2, 3, 4, 5, 6, 7, 8, 9, 10, 11, 12, 13, 14, 15, 16, 19] (by kernel_rfl) ?_
                intro σ aa ww sS sF sU sA K hK
                have f16 : (fun σ _ => σ 16 = .int .u64 (n4 : Int)) σ ww := sF.1; try dsimp only at f16
                clear sF
                have sl61 := AllSlots.cons_who (j := 16) sA (by kernel_rfl)
                replace sA := sA.2
                clear sA
                try (have SS := Lib.hid sS; have c16 : ww.cell? ⟨bk, o + 16, none⟩ = some (.int .u8 (n2 : Int)) := by { have := sS.1 16 (by have := HWJ.out.1; omega); rw [this, ← HN2.out]; rfl })
                try (obtain ⟨p, e4, hp, x0, x1, x2, x3, x4, x5, hx⟩ := f19; rw [e4] at sl7; have c0 := cell_row hx 0; have c1 := cell_row hx 1; have c2 := cell_row hx 2; have c3 := cell_row hx 3; have c4 := cell_row hx 4; have c5 := cell_row hx 5; have r0 := free_row hx 0; have r1 := free_row hx 1; have r2 := free_row hx 2; have r3 := free_row hx 3; have r4 := free_row hx 4; have r5 := free_row hx 5; have HX := Lib.hid hx; have E4 := Lib.hid e4; clear hx)
                try rw [f16] at sl61
                try go_simp
                refine Shut.out hK _ _ ?_ ?_ ?_
                · (try clear hK)
                  (try dsimp only)
                  first | (with_reducible exact SS.out) | (with_reducible exact hS4) | (with_reducible exact ⟨SS.out.1.below ((Below.refl _ _).alloc (Nat.le_refl _) _), SS.out.2.alloc SS.out.2.size _⟩) | (rw [set6 HX.out]; exact ⟨rdb_row SS.out.1 (by omega), below_row SS.out.2 hp⟩)
                · (try clear hK)
                  simp only [nthF]
                  (try simp only [upd, if_true, if_false, Nat.reduceEqDiff, reduceIte])
                  first | done | trivial | rfl
                · refine ⟨?_, ?_, ?_, ?_, ?_, ?_, ?_, ?_, ?_, ?_, ?_, ?_, ?_, ?_, ?_, ?_, ?_, ?_, trivial⟩
                  all_goals (try clear hK)
                  all_goals simp only [nthF]
                  all_goals (try simp only [upd, if_true, if_false, Nat.reduceEqDiff, reduceIte])
                  all_goals first | done | with_reducible exact fun h => h | exact (fun _ => trivial) | (intro hpr; first | (with_reducible exact hpr) | (obtain ⟨p', e', hp', z0, z1, z2, z3, z4, z5, hz⟩ := hpr; have e6 := e'.symm.trans E4.out; injection e6 with e6; injection e6 with e6; injection e6 with e6; subst e6; refine ⟨_, e', hp', ?_⟩; rw [set6 HX.out]; exact ⟨_, _, _, _, _, _, setRow_heap _ _ _ _ _ _ HX.out⟩)) | exact fun h => h
              · refine StepOf.introL (i := 18) rfl (some 63) rfl [2, 5, 9, 13, 17, 16, 15, 12, 14, 11, 10, 8, 7, 6, 4, 3, 1, 0] [47, 50, 54, 58, 62] [0, 1, 2, 3, 4, 5, 6, 7, 8, 9, 10, 11, 12, 13, 14, 15, 16, 17, 19] (by kernel_rfl) ?_
                intro σ aa ww sS sF sU sA K hK
                have f2 : (fun σ _ => σ 2 = .int .u64 (n0 : Int)) σ ww := sF.1; try dsimp only at f2
                have f5 : (fun σ _ => σ 5 = .int .u64 (n1 : Int)) σ ww := sF.2.1; try dsimp only at f5
                have f9 : (fun σ _ => σ 9 = .bool ((n2 : Int) == 1)) σ ww := sF.2.2.1; try dsimp only at f9
                have f13 : (fun σ _ => σ 13 = .int .i64 (n3 : Int)) σ ww := sF.2.2.2.1; try dsimp only at f13
                have f17 : (fun σ _ => σ 17 = .int .u32 (n4 : Int)) σ ww := sF.2.2.2.2.1; try dsimp only at f17
                clear sF
                have sl47 := AllSlots.cons_who (j := 2) sA (by kernel_rfl)
                replace sA := sA.2
                have sl50 := AllSlots.cons_who (j := 5) sA (by kernel_rfl)
                replace sA := sA.2
                have sl54 := AllSlots.cons_who (j := 9) sA (by kernel_rfl)
                replace sA := sA.2
                have sl58 := AllSlots.cons_who (j := 13) sA (by kernel_rfl)
                replace sA := sA.2
                have sl62 := AllSlots.cons_who (j := 17) sA (by kernel_rfl)
                replace sA := sA.2
                clear sA
                try (have SS := Lib.hid sS; have c16 : ww.cell? ⟨bk, o + 16, none⟩ = some (.int .u8 (n2 : Int)) := by { have := sS.1 16 (by have := HWJ.out.1; omega); rw [this, ← HN2.out]; rfl })
                try (obtain ⟨p, e4, hp, x0, x1, x2, x3, x4, x5, hx⟩ := f19; rw [e4] at sl7; have c0 := cell_row hx 0; have c1 := cell_row hx 1; have c2 := cell_row hx 2; have c3 := cell_row hx 3; have c4 := cell_row hx 4; have c5 := cell_row hx 5; have r0 := free_row hx 0; have r1 := free_row hx 1; have r2 := free_row hx 2; have r3 := free_row hx 3; have r4 := free_row hx 4; have r5 := free_row hx 5; have HX := Lib.hid hx; have E4 := Lib.hid e4; clear hx)
                try rw [f2] at sl47
                try rw [f5] at sl50
                try rw [f9] at sl54
                try rw [f13] at sl58
                try rw [f17] at sl62
                try go_simp
                refine Shut.out hK _ _ ?_ ?_ ?_
                · (try clear hK)
                  (try dsimp only)
                  first | (with_reducible exact SS.out) | (with_reducible exact hS4) | (with_reducible exact ⟨SS.out.1.below ((Below.refl _ _).alloc (Nat.le_refl _) _), SS.out.2.alloc SS.out.2.size _⟩) | (rw [set6 HX.out]; exact ⟨rdb_row SS.out.1 (by omega), below_row SS.out.2 hp⟩)
                · (try clear hK)
                  simp only [nthF]
                  (try simp only [upd, if_true, if_false, Nat.reduceEqDiff, reduceIte])
                  first | done | trivial | rfl
                · refine ⟨?_, ?_, ?_, ?_, ?_, ?_, ?_, ?_, ?_, ?_, ?_, ?_, ?_, ?_, ?_, ?_, ?_, ?_, ?_, trivial⟩
                  all_goals (try clear hK)
                  all_goals simp only [nthF]
                  all_goals (try simp only [upd, if_true, if_false, Nat.reduceEqDiff, reduceIte])
                  all_goals first | done | with_reducible exact fun h => h | exact (fun _ => trivial) | (intro hpr; first | (with_reducible exact hpr) | (obtain ⟨p', e', hp', z0, z1, z2, z3, z4, z5, hz⟩ := hpr; have e6 := e'.symm.trans E4.out; injection e6 with e6; injection e6 with e6; injection e6 with e6; subst e6; refine ⟨_, e', hp', ?_⟩; rw [set6 HX.out]; exact ⟨_, _, _, _, _, _, setRow_heap _ _ _ _ _ _ HX.out⟩)) | exact fun h => h
              · refine StepOf.introL (i := 19) rfl (some 7) rfl [] [] [0, 1, 2, 3, 4, 5, 6, 7, 8, 9, 10, 11, 12, 13, 14, 15, 16, 17, 18] (by kernel_rfl) ?_
                intro σ aa ww sS sF sU sA K hK
                clear sF
                clear sA
                try (have SS := Lib.hid sS; have c16 : ww.cell? ⟨bk, o + 16, none⟩ = some (.int .u8 (n2 : Int)) := by { have := sS.1 16 (by have := HWJ.out.1; omega); rw [this, ← HN2.out]; rfl })
                try (obtain ⟨p, e4, hp, x0, x1, x2, x3, x4, x5, hx⟩ := f19; rw [e4] at sl7; have c0 := cell_row hx 0; have c1 := cell_row hx 1; have c2 := cell_row hx 2; have c3 := cell_row hx 3; have c4 := cell_row hx 4; have c5 := cell_row hx 5; have r0 := free_row hx 0; have r1 := free_row hx 1; have r2 := free_row hx 2; have r3 := free_row hx 3; have r4 := free_row hx 4; have r5 := free_row hx 5; have HX := Lib.hid hx; have E4 := Lib.hid e4; clear hx)
                try go_simp
                refine Shut.out hK _ _ ?_ ?_ ?_
                · (try clear hK)
                  (try dsimp only)
                  first | (with_reducible exact SS.out) | (with_reducible exact hS4) | (with_reducible exact ⟨SS.out.1.below ((Below.refl _ _).alloc (Nat.le_refl _) _), SS.out.2.alloc SS.out.2.size _⟩) | (rw [set6 HX.out]; exact ⟨rdb_row SS.out.1 (by omega), below_row SS.out.2 hp⟩)
                · (try clear hK)
                  simp only [nthF]
                  (try simp only [upd, if_true, if_false, Nat.reduceEqDiff, reduceIte])
                  first | done | trivial | rfl | (exact ⟨_, rfl, SS.out.2.size, _, _, _, _, _, _, heap_alloc_last _ _⟩)
                · refine ⟨?_, ?_, ?_, ?_, ?_, ?_, ?_, ?_, ?_, ?_, ?_, ?_, ?_, ?_, ?_, ?_, ?_, ?_, ?_, trivial⟩
                  all_goals (try clear hK)
                  all_goals simp only [nthF]
                  all_goals (try simp only [upd, if_true, if_false, Nat.reduceEqDiff, reduceIte])
                  all_goals first | done | with_reducible exact fun h => h | exact (fun _ => trivial) | exact fun h => h
              · refine StepOf.introL (i := 20) rfl none rfl [19, 18, 16, 0, 1, 2, 3, 4, 5, 6, 7, 8, 9, 10, 11, 12, 13, 14, 15, 17] [7, 63] [0, 1, 2, 3, 4, 5, 6, 7, 8, 9, 10, 11, 12, 13, 14, 15, 16, 17, 18, 19] (by kernel_rfl) ?_
                intro σ aa ww sS sF sU sA K hK
                have f19 : (fun σ w' => ∃ p, σ 19 = .pointer (some ⟨p, 0, none⟩) ∧ w4.heap.size ≤ p ∧ ∃ x0 x1 x2 x3 x4 x5, w'.heap[p]? = some (.cells #[x0, x1, x2, x3, x4, x5] 101 (0, 0))) σ ww := sF.1; try dsimp only at f19
                have f18 : (fun σ _ => σ 18 = .agg #[.int .u64 (n0 : Int), .int .u64 (n1 : Int), .bool ((n2 : Int) == 1), .int .i64 (n3 : Int), .int .u32 (n4 : Int), .slice none 0 0]) σ ww := sF.2.1; try dsimp only at f18
                clear sF
                have sl7 := AllSlots.cons_who (j := 19) sA (by kernel_rfl)
                replace sA := sA.2
                have sl63 := AllSlots.cons_who (j := 18) sA (by kernel_rfl)
                replace sA := sA.2
                clear sA
                try (have SS := Lib.hid sS; have c16 : ww.cell? ⟨bk, o + 16, none⟩ = some (.int .u8 (n2 : Int)) := by { have := sS.1 16 (by have := HWJ.out.1; omega); rw [this, ← HN2.out]; rfl })
                try (obtain ⟨p, e4, hp, x0, x1, x2, x3, x4, x5, hx⟩ := f19; rw [e4] at sl7; have c0 := cell_row hx 0; have c1 := cell_row hx 1; have c2 := cell_row hx 2; have c3 := cell_row hx 3; have c4 := cell_row hx 4; have c5 := cell_row hx 5; have r0 := free_row hx 0; have r1 := free_row hx 1; have r2 := free_row hx 2; have r3 := free_row hx 3; have r4 := free_row hx 4; have r5 := free_row hx 5; have HX := Lib.hid hx; have E4 := Lib.hid e4; clear hx)
                try rw [f19] at sl7
                try rw [f18] at sl63
                try go_simp
                refine Shut.out hK undef _ ?_ ?_ ?_
                · (try clear hK)
                  (try dsimp only)
                  first | (with_reducible exact SS.out) | (with_reducible exact hS4) | (with_reducible exact ⟨SS.out.1.below ((Below.refl _ _).alloc (Nat.le_refl _) _), SS.out.2.alloc SS.out.2.size _⟩) | (rw [set6 HX.out]; exact ⟨rdb_row SS.out.1 (by omega), below_row SS.out.2 hp⟩)
                · (try clear hK)
                  simp only [nthF]
                  (try simp only [upd, if_true, if_false, Nat.reduceEqDiff, reduceIte])
                  first | done | trivial | rfl | (refine ⟨p, E4.out, hp, ?_⟩; rw [set6 HX.out]; exact setRow_heap _ _ _ _ _ _ HX.out)
                · refine ⟨?_, ?_, ?_, ?_, ?_, ?_, ?_, ?_, ?_, ?_, ?_, ?_, ?_, ?_, ?_, ?_, ?_, ?_, ?_, ?_, trivial⟩
                  all_goals (try clear hK)
                  all_goals simp only [nthF]
                  all_goals (try simp only [upd, if_true, if_false, Nat.reduceEqDiff, reduceIte])
                  all_goals first | done | with_reducible exact fun h => h | exact (fun _ => trivial) | (intro hpr; first | (with_reducible exact hpr) | (obtain ⟨p', e', hp', z0, z1, z2, z3, z4, z5, hz⟩ := hpr; have e6 := e'.symm.trans E4.out; injection e6 with e6; injection e6 with e6; injection e6 with e6; subst e6; refine ⟨_, e', hp', ?_⟩; rw [set6 HX.out]; exact ⟨_, _, _, _, _, _, setRow_heap _ _ _ _ _ _ HX.out⟩)) | exact fun h => h
            intro σ wE hE fE
            have f20 : (fun σ w' => ∃ p, σ 19 = .pointer (some ⟨p, 0, none⟩) ∧ w4.heap.size ≤ p ∧ w'.heap[p]? = some (.cells #[.int .u64 (n0 : Int), .int .u64 (n1 : Int), .bool ((n2 : Int) == 1), .int .i64 (n3 : Int), .int .u32 (n4 : Int), .slice none 0 0] 101 (0, 0))) σ wE := fE.2
            replace fE := fE.1
            try dsimp only at f20
            have f19 : (fun σ w' => ∃ p, σ 19 = .pointer (some ⟨p, 0, none⟩) ∧ w4.heap.size ≤ p ∧ ∃ x0 x1 x2 x3 x4 x5, w'.heap[p]? = some (.cells #[x0, x1, x2, x3, x4, x5] 101 (0, 0))) σ wE := fE.2
            replace fE := fE.1
            try dsimp only at f19
            have f18 : (fun σ _ => σ 18 = .agg #[.int .u64 (n0 : Int), .int .u64 (n1 : Int), .bool ((n2 : Int) == 1), .int .i64 (n3 : Int), .int .u32 (n4 : Int), .slice none 0 0]) σ wE := fE.2
            replace fE := fE.1
            try dsimp only at f18
            have f17 : (fun σ _ => σ 17 = .int .u32 (n4 : Int)) σ wE := fE.2
            replace fE := fE.1
            try dsimp only at f17
            have f16 : (fun σ _ => σ 16 = .int .u64 (n4 : Int)) σ wE := fE.2
            replace fE := fE.1
            try dsimp only at f16
            have f15 : (fun σ _ => σ 15 = .slice (some ⟨bk, o + 20, none⟩) 4 (cp - 20)) σ wE := fE.2
            replace fE := fE.1
            try dsimp only at f15
            have f14 : (fun σ _ => σ 14 = .slice (some ⟨bk, o, none⟩) b.length cp) σ wE := fE.2
            replace fE := fE.1
            try dsimp only at f14
            have f13 : (fun σ _ => σ 13 = .int .i64 (n3 : Int)) σ wE := fE.2
            replace fE := fE.1
            try dsimp only at f13
            have f12 : (fun σ _ => σ 12 = .int .u64 (n3 : Int)) σ wE := fE.2
            replace fE := fE.1
            try dsimp only at f12
            have f11 : (fun σ _ => σ 11 = .slice (some ⟨bk, o + 18, none⟩) 2 (cp - 18)) σ wE := fE.2
            replace fE := fE.1
            try dsimp only at f11
            have f10 : (fun σ _ => σ 10 = .slice (some ⟨bk, o, none⟩) b.length cp) σ wE := fE.2
            replace fE := fE.1
            try dsimp only at f10
            have f9 : (fun σ _ => σ 9 = .bool ((n2 : Int) == 1)) σ wE := fE.2
            replace fE := fE.1
            try dsimp only at f9
            have f8 : (fun σ _ => σ 8 = .int .u8 (n2 : Int)) σ wE := fE.2
            replace fE := fE.1
            try dsimp only at f8
            have f7 : (fun σ _ => σ 7 = .pointer (some ⟨bk, o + 16, none⟩)) σ wE := fE.2
            replace fE := fE.1
            try dsimp only at f7
            have f6 : (fun σ _ => σ 6 = .slice (some ⟨bk, o, none⟩) b.length cp) σ wE := fE.2
            replace fE := fE.1
            try dsimp only at f6
            have f5 : (fun σ _ => σ 5 = .int .u64 (n1 : Int)) σ wE := fE.2
            replace fE := fE.1
            try dsimp only at f5
            have f4 : (fun σ _ => σ 4 = .slice (some ⟨bk, o + 8, none⟩) 8 (cp - 8)) σ wE := fE.2
            replace fE := fE.1
            try dsimp only at f4
            have f3 : (fun σ _ => σ 3 = .slice (some ⟨bk, o, none⟩) b.length cp) σ wE := fE.2
            replace fE := fE.1
            try dsimp only at f3
            have f2 : (fun σ _ => σ 2 = .int .u64 (n0 : Int)) σ wE := fE.2
            replace fE := fE.1
            try dsimp only at f2
            have f1 : (fun σ _ => σ 1 = .slice (some ⟨bk, o, none⟩) 8 cp) σ wE := fE.2
            replace fE := fE.1
            try dsimp only at f1
            have f0 : (fun σ _ => σ 0 = .slice (some ⟨bk, o, none⟩) b.length cp) σ wE := fE.2
            replace fE := fE.1
            try dsimp only at f0
            clear fE
            simp only [fillAll, List.getElem?_toArray, List.getElem?_cons_succ, List.getElem?_cons_zero, Option.bind_some, List.setIfInBounds_toArray, List.set_cons_zero, List.set_cons_succ]
            obtain ⟨wI, rfl⟩ : ∃ wI : World, wI = wE := ⟨_, rfl⟩
            obtain ⟨p7, e19, hp7, hX7⟩ := f20
            have hBE := hE.2
            have hRE := hE.1
            rw [e19]
            clear f0 f1 f2 f3 f4 f5 f6 f7 f8 f9 f10 f11 f12 f13 f14 f15 f16 f17 f18 f19 hE e19 hS4 q0 q1 q3 q4 z8 z16 z18 z20 z24 c8 c18 c20 w3' w4'
            have hp7l : p7 < wI.heap.size := (Array.getElem?_eq_some_iff.1 hX7).1
            have HX7 := Lib.hid hX7
            have HBE4 := Lib.hid hBE
            have HRE := Lib.hid hRE
            have hst : wI.ownsRow wI.heap.size 162 4 (.slice none 0 0) 0 (rowsOf Ent5.cells (entrys b 24 0)) := own_nilk _ _ _ _
            have HST := Lib.hid hst
            clear hX7 hBE hRE hst hi16
            go_wp2
            go_loopw [8] (fun i wr => ∃ (k : Nat) (v : Value), k ≤ J ∧ i = .int .i64 ((24 + 9 * k : Nat) : Int) ∧ Hid ((entrys b 24 k).all entryMay = true) ∧ Hid (wr.heap[p7]? = some (.cells #[.int .u64 (n0 : Int), .int .u64 (n1 : Int), .bool ((n2 : Int) == 1), .int .i64 (n3 : Int), .int .u32 (n4 : Int), v] 101 (0, 0))) ∧ Hid (wr.ownsRow wI.heap.size 162 4 v k (rowsOf Ent5.cells (entrys b 24 k))) ∧ Hid (Keep (· = p7) wI wr)) (fun i _ => (b.length - intOf i).toNat)
            case atStart => exact ⟨0, _, by omega, rfl, Lib.hid rfl, HX7, HST, Lib.hid (Keep.refl _ _)⟩
            case round =>
              clear HST HX7
              obtain ⟨k, v, hk, rfl, HK, HX, HO, HKP⟩ := hrel
              obtain ⟨so, co, rfl⟩ := own_slice1 HO.out
              have HWZ : Hid (wI.heap.size ≤ wr.heap.size) := Lib.hid HKP.out.size
              have hrw : RdB wr bk o b := fun i hi => HKP.out.cell (HRE.out i hi) (by show ¬ bk = p7; omega)
              have HTr : Hid (wr.heap[w.heap.size + 1]? = some (.cells #[.int .u64 0, .int .u64 0, .bool false, .int .i64 0, .int .u32 0, .slice none 0 0] 101 (0, 0))) := Lib.hid (HKP.out.heap ((HBE4.out.block (w.heap.size + 1) (Array.getElem?_eq_some_iff.1 HT4.out).1).trans HT4.out) (by show ¬ w.heap.size + 1 = p7; have := (Array.getElem?_eq_some_iff.1 HT4.out).1; omega))
              obtain ⟨q, hq⟩ : ∃ q, 24 + 9 * k = q := ⟨_, rfl⟩
              rw [hq]
              have HQ := Lib.hid hq
              have hbl5 := HWJ.out
              have hbl9 := HLEN.out
              by_cases hlt : k < J
              · have hql : (q : Int) < (b.length : Int) := by omega
                have hq9 : q + 9 ≤ b.length := by omega
                have HQ9 := Lib.hid hq9
                have HCPq := Lib.hid (Nat.le_trans hq9 HCP.out)
                have HB256 := Lib.hid hbl
                clear hq hbl9 hbl5
                have HRW := Lib.hid hrw
                have hqi : (q : Int) < (b.length : Int) := hql
                clear hrw hq9
                go_upto_region 8 with fail
                have r1 := fun W (h : RdB W bk o b) => Lib.hid (num_cut (cp := cp - (q + 1)) h (a := q + 1) (k := 2) (by have := HQ9.out; omega) (by decide))
                have r3 := fun W (h : RdB W bk o b) => Lib.hid (num_cut (cp := cp - (q + 3)) h (a := q + 3) (k := 4) (by have := HQ9.out; omega) (by decide))
                have r7 := fun W (h : RdB W bk o b) => Lib.hid (num_cut (cp := cp - (q + 7)) h (a := q + 7) (k := 2) (by have := HQ9.out; omega) (by decide))
                obtain ⟨kn, hkn⟩ : ∃ n, (b.getD q 0).toNat = n := ⟨_, rfl⟩
                obtain ⟨en, hen⟩ : ∃ n, rN b (q + 1) 2 = n := ⟨_, rfl⟩
                obtain ⟨ev, hev⟩ : ∃ n, rN b (q + 3) 4 = n := ⟨_, rfl⟩
                obtain ⟨ei, hei⟩ : ∃ n, rN b (q + 7) 2 = n := ⟨_, rfl⟩
                simp only [hen] at r1
                simp only [hev] at r3
                simp only [hei] at r7
                have hkl : kn < 256 := by rw [← hkn]; exact UInt8.toNat_lt _
                have henl : en < 65536 := by rw [← hen]; exact Nat.lt_of_lt_of_le (rN_lt b _ 2) (by decide)
                have hevl : ev < 4294967296 := by rw [← hev]; exact Nat.lt_of_lt_of_le (rN_lt b _ 4) (by decide)
                have heil : ei < 65536 := by rw [← hei]; exact Nat.lt_of_lt_of_le (rN_lt b _ 2) (by decide)
                have v0 : IntKind.i64.wrap (kn : Int) = (kn : Int) := IntWalk.i64_in _ (by omega)
                have v1 : IntKind.u32.wrap (en : Int) = (en : Int) := by unfold IntKind.wrap; simp [IntKind.signed, IntKind.bits]; omega
                have v2 : IntKind.u32.wrap (ev : Int) = (ev : Int) := by unfold IntKind.wrap; simp [IntKind.signed, IntKind.bits]; omega
                have v3 : IntKind.i64.wrap (ei : Int) = (ei : Int) := IntWalk.i64_in _ (by omega)
                have u1 : IntKind.i64.wrap ((q : Int) + 1) = (q : Int) + 1 := IntWalk.i64_in _ (by have := HQ9.out; have := HB256.out; omega)
                have u3 : IntKind.i64.wrap ((q : Int) + 3) = (q : Int) + 3 := IntWalk.i64_in _ (by have := HQ9.out; have := HB256.out; omega)
                have u7 : IntKind.i64.wrap ((q : Int) + 7) = (q : Int) + 7 := IntWalk.i64_in _ (by have := HQ9.out; have := HB256.out; omega)
                have u9 : IntKind.i64.wrap ((q : Int) + 9) = (q : Int) + 9 := IntWalk.i64_in _ (by have := HQ9.out; have := HB256.out; omega)
                have HEE := Lib.hid (⟨hkn, hen, hev, hei⟩ : (b.getD q 0).toNat = kn ∧ rN b (q + 1) 2 = en ∧ rN b (q + 3) 4 = ev ∧ rN b (q + 7) 2 = ei)
                have hbkr : bk < wr.heap.size := by have := HWZ.out; have := HBE4.out.size; omega
                have hS8 : RdB wr.drew bk o b ∧ Keep (fun _ => False) wr wr.drew := ⟨HRW.out, (Keep.refl _ _).drew⟩
                have t3 : (q : Int) + 3 ≤ (cp : Int) := by have := HCPq.out; omega
                have t7 : (q : Int) + 7 ≤ (cp : Int) := by have := HCPq.out; omega
                have t9 : (q : Int) + 9 ≤ (cp : Int) := by have := HCPq.out; omega
                have p1 : (0 : Int) ≤ (q : Int) + 1 := by omega
                have p3 : (0 : Int) ≤ (q : Int) + 3 := by omega
                have p7' : (0 : Int) ≤ (q : Int) + 7 := by omega
                have m1 : (q : Int) + 1 ≤ (q : Int) + 3 := by omega
                have m3 : (q : Int) + 3 ≤ (q : Int) + 7 := by omega
                have m7 : (q : Int) + 7 ≤ (q : Int) + 9 := by omega
                have i1 : ((q : Int) + 1).toNat = q + 1 := by omega
                have i3 : ((q : Int) + 3).toNat = q + 3 := by omega
                have i7 : ((q : Int) + 7).toNat = q + 7 := by omega
                have i9 : ((q : Int) + 9).toNat = q + 9 := by omega
                have i97 : q + 9 - (q + 7) = 2 := by omega
                have j1 : ((q : Int) + 3 - ((q : Int) + 1)).toNat = 2 := by omega
                have j3 : ((q : Int) + 7 - ((q : Int) + 3)).toNat = 4 := by omega
                have j7 : ((q : Int) + 9 - ((q : Int) + 7)).toNat = 2 := by omega
                have k1 : ((cp : Int) - ((q : Int) + 1)).toNat = cp - (q + 1) := by omega
                have k3 : ((cp : Int) - ((q : Int) + 3)).toNat = cp - (q + 3) := by omega
                have k7 : ((cp : Int) - ((q : Int) + 7)).toNat = cp - (q + 7) := by omega
                have y1 : ¬ cp = q + 1 := by have := HCPq.out; omega
                have y3 : ¬ cp = q + 3 := by have := HCPq.out; omega
                have y7 : ¬ cp = q + 7 := by have := HCPq.out; omega
                clear hkn hen hev hei hql hlt
                refine wp_region_inv_lit (S := (fun w' => RdB w' bk o b ∧ Keep (fun _ => False) wr w')) (nthF [(fun σ _ => σ 0 = .slice (some ⟨bk, o, none⟩) b.length cp), (fun σ _ => σ 1 = .int .i64 (q : Int)), (fun σ _ => σ 2 = .pointer (some ⟨bk, o + q, none⟩)), (fun σ _ => σ 3 = .int .u8 (kn : Int)), (fun σ _ => σ 4 = .int .i64 (kn : Int)), (fun σ _ => σ 5 = .slice (some ⟨bk, o, none⟩) b.length cp), (fun σ _ => σ 6 = .int .i64 (q : Int)), (fun σ _ => σ 7 = .int .i64 ((q : Int) + 1)), (fun σ _ => σ 8 = .int .i64 (q : Int)), (fun σ _ => σ 9 = .int .i64 ((q : Int) + 3)), (fun σ _ => σ 10 = .slice (some ⟨bk, o + (q + 1), none⟩) 2 (cp - (q + 1))), (fun σ _ => σ 11 = .int .u64 (en : Int)), (fun σ _ => σ 12 = .int .u32 (en : Int)), (fun σ _ => σ 13 = .slice (some ⟨bk, o, none⟩) b.length cp), (fun σ _ => σ 14 = .int .i64 (q : Int)), (fun σ _ => σ 15 = .int .i64 ((q : Int) + 3)), (fun σ _ => σ 16 = .int .i64 (q : Int)), (fun σ _ => σ 17 = .int .i64 ((q : Int) + 7)), (fun σ _ => σ 18 = .slice (some ⟨bk, o + (q + 3), none⟩) 4 (cp - (q + 3))), (fun σ _ => σ 19 = .int .u64 (ev : Int)), (fun σ _ => σ 20 = .int .u32 (ev : Int)), (fun σ _ => σ 21 = .slice (some ⟨bk, o, none⟩) b.length cp), (fun σ _ => σ 22 = .int .i64 (q : Int)), (fun σ _ => σ 23 = .int .i64 ((q : Int) + 7)), (fun σ _ => σ 24 = .int .i64 (q : Int)), (fun σ _ => σ 25 = .int .i64 ((q : Int) + 9)), (fun σ _ => σ 26 = .slice (some ⟨bk, o + (q + 7), none⟩) 2 (cp - (q + 7))), (fun σ _ => σ 27 = .int .u64 (ei : Int)), (fun σ _ => σ 28 = .int .i64 (ei : Int)), (fun σ _ => σ 29 = .agg #[.int .i64 (kn : Int), .int .u32 (en : Int), .int .u32 (ev : Int), .int .i64 (ei : Int)]), (fun σ w' => ∃ p, σ 30 = .pointer (some ⟨p, 0, none⟩) ∧ wr.heap.size ≤ p ∧ ∃ x0 x1 x2 x3, w'.heap[p]? = some (.cells #[x0, x1, x2, x3] 162 (0, 0))), (fun σ w' => ∃ p, σ 30 = .pointer (some ⟨p, 0, none⟩) ∧ wr.heap.size ≤ p ∧ w'.heap[p]? = some (.cells #[.int .i64 (kn : Int), .int .u32 (en : Int), .int .u32 (ev : Int), .int .i64 (ei : Int)] 162 (0, 0)))]) 120 32 (by kernel_rfl) (by rfl) (by rfl) (by kernel_rfl) ?_ ?_ ?_
                · (try dsimp only)
                  first | (with_reducible exact SS.out) | (with_reducible exact hS8) | (with_reducible exact ⟨SS.out.1.below ((Below.refl _ _).alloc (Nat.le_refl _) _), SS.out.2.trans (Keep.of_below ((Below.refl _ _).alloc (Nat.le_refl _) _))⟩) | (rw [set4 HX.out]; exact ⟨rdb_row SS.out.1 (by omega), keep_row SS.out.2 hp⟩)
                · intro QQ
                  refine ⟨⟨⟨⟨⟨⟨⟨⟨⟨⟨⟨⟨⟨⟨⟨⟨⟨⟨⟨⟨⟨⟨⟨⟨⟨⟨⟨⟨⟨⟨⟨⟨trivial, ?_⟩, ?_⟩, ?_⟩, ?_⟩, ?_⟩, ?_⟩, ?_⟩, ?_⟩, ?_⟩, ?_⟩, ?_⟩, ?_⟩, ?_⟩, ?_⟩, ?_⟩, ?_⟩, ?_⟩, ?_⟩, ?_⟩, ?_⟩, ?_⟩, ?_⟩, ?_⟩, ?_⟩, ?_⟩, ?_⟩, ?_⟩, ?_⟩, ?_⟩, ?_⟩, ?_⟩, ?_⟩
                  · refine StepOf.introL (i := 0) rfl (some 70) rfl [] [5] [1, 5, 6, 7, 8, 9, 10, 11, 12, 13, 14, 15, 16, 17, 18, 19, 20, 21, 22, 23, 24, 25, 26, 27, 28, 30] (by kernel_rfl) ?_
                    intro σ aa ww sS sF sU sA K hK
                    clear sF
                    have sl5 := AllSlots.cons_none sA (by kernel_rfl)
                    try simp only [List.getElem?_toArray, List.getElem?_cons_succ, List.getElem?_cons_zero] at sl5
                    replace sA := sA.2
                    clear sA
                    try (have SS := Lib.hid sS; have c16 : ww.cell? ⟨bk, o + q, none⟩ = some (.int .u8 (kn : Int)) := by { have := sS.1 q (by have := HQ9.out; omega); rw [this, HEE.out.1] })
                    try (obtain ⟨p, e4, hp, x0, x1, x2, x3, hx⟩ := f30; rw [e4] at sl9; have c0 := cell_row hx 0; have c1 := cell_row hx 1; have c2 := cell_row hx 2; have c3 := cell_row hx 3; have a0 := free_row hx 0; have a1 := free_row hx 1; have a2 := free_row hx 2; have a3 := free_row hx 3; have HX := Lib.hid hx; have E4 := Lib.hid e4; clear hx)
                    try go_simp
                    refine Shut.out hK _ _ ?_ ?_ ?_
                    · (try clear hK)
                      (try dsimp only)
                      first | (with_reducible exact SS.out) | (with_reducible exact hS8) | (with_reducible exact ⟨SS.out.1.below ((Below.refl _ _).alloc (Nat.le_refl _) _), SS.out.2.trans (Keep.of_below ((Below.refl _ _).alloc (Nat.le_refl _) _))⟩) | (rw [set4 HX.out]; exact ⟨rdb_row SS.out.1 (by omega), keep_row SS.out.2 hp⟩)
                    · (try clear hK)
                      simp only [nthF]
                      (try simp only [upd, if_true, if_false, Nat.reduceEqDiff, reduceIte])
                      first | done | trivial | rfl
                    · refine ⟨?_, ?_, ?_, ?_, ?_, ?_, ?_, ?_, ?_, ?_, ?_, ?_, ?_, ?_, ?_, ?_, ?_, ?_, ?_, ?_, ?_, ?_, ?_, ?_, ?_, ?_, trivial⟩
                      all_goals (try clear hK)
                      all_goals simp only [nthF]
                      all_goals (try simp only [upd, if_true, if_false, Nat.reduceEqDiff, reduceIte])
                      all_goals first | done | with_reducible exact fun h => h | exact (fun _ => trivial) | (intro hpr; first | (with_reducible exact hpr) | (obtain ⟨p', e', hp', z0, z1, z2, z3, hz⟩ := hpr; have e6 := e'.symm.trans E4.out; injection e6 with e6; injection e6 with e6; injection e6 with e6; subst e6; refine ⟨_, e', hp', ?_⟩; rw [set4 HX.out]; exact ⟨_, _, _, _, setRow_heap _ _ _ _ _ _ HX.out⟩)) | exact fun h => h
                  · refine StepOf.introL (i := 1) rfl (some 71) rfl [] [8] [0, 5, 6, 7, 8, 9, 10, 11, 12, 13, 14, 15, 16, 17, 18, 19, 20, 21, 22, 23, 24, 25, 26, 27, 28, 30] (by kernel_rfl) ?_
                    intro σ aa ww sS sF sU sA K hK
                    clear sF
                    have sl8 := AllSlots.cons_none sA (by kernel_rfl)
                    try simp only [List.getElem?_toArray, List.getElem?_cons_succ, List.getElem?_cons_zero] at sl8
                    replace sA := sA.2
                    clear sA
                    try (have SS := Lib.hid sS; have c16 : ww.cell? ⟨bk, o + q, none⟩ = some (.int .u8 (kn : Int)) := by { have := sS.1 q (by have := HQ9.out; omega); rw [this, HEE.out.1] })
                    try (obtain ⟨p, e4, hp, x0, x1, x2, x3, hx⟩ := f30; rw [e4] at sl9; have c0 := cell_row hx 0; have c1 := cell_row hx 1; have c2 := cell_row hx 2; have c3 := cell_row hx 3; have a0 := free_row hx 0; have a1 := free_row hx 1; have a2 := free_row hx 2; have a3 := free_row hx 3; have HX := Lib.hid hx; have E4 := Lib.hid e4; clear hx)
                    try go_simp
                    refine Shut.out hK _ _ ?_ ?_ ?_
                    · (try clear hK)
                      (try dsimp only)
                      first | (with_reducible exact SS.out) | (with_reducible exact hS8) | (with_reducible exact ⟨SS.out.1.below ((Below.refl _ _).alloc (Nat.le_refl _) _), SS.out.2.trans (Keep.of_below ((Below.refl _ _).alloc (Nat.le_refl _) _))⟩) | (rw [set4 HX.out]; exact ⟨rdb_row SS.out.1 (by omega), keep_row SS.out.2 hp⟩)
                    · (try clear hK)
                      simp only [nthF]
                      (try simp only [upd, if_true, if_false, Nat.reduceEqDiff, reduceIte])
                      first | done | trivial | rfl
                    · refine ⟨?_, ?_, ?_, ?_, ?_, ?_, ?_, ?_, ?_, ?_, ?_, ?_, ?_, ?_, ?_, ?_, ?_, ?_, ?_, ?_, ?_, ?_, ?_, ?_, ?_, ?_, trivial⟩
                      all_goals (try clear hK)
                      all_goals simp only [nthF]
                      all_goals (try simp only [upd, if_true, if_false, Nat.reduceEqDiff, reduceIte])
                      all_goals first | done | with_reducible exact fun h => h | exact (fun _ => trivial) | (intro hpr; first | (with_reducible exact hpr) | (obtain ⟨p', e', hp', z0, z1, z2, z3, hz⟩ := hpr; have e6 := e'.symm.trans E4.out; injection e6 with e6; injection e6 with e6; injection e6 with e6; subst e6; refine ⟨_, e', hp', ?_⟩; rw [set4 HX.out]; exact ⟨_, _, _, _, setRow_heap _ _ _ _ _ _ HX.out⟩)) | exact fun h => h
                  · refine StepOf.introL (i := 2) rfl (some 72) rfl [0, 1] [70, 71] [0, 1, 5, 6, 7, 8, 9, 10, 11, 12, 13, 14, 15, 16, 17, 18, 19, 20, 21, 22, 23, 24, 25, 26, 27, 28, 30] (by kernel_rfl) ?_
                    intro σ aa ww sS sF sU sA K hK
                    have f0 : (fun σ _ => σ 0 = .slice (some ⟨bk, o, none⟩) b.length cp) σ ww := sF.1; try dsimp only at f0
                    have f1 : (fun σ _ => σ 1 = .int .i64 (q : Int)) σ ww := sF.2.1; try dsimp only at f1
                    clear sF
                    have sl70 := AllSlots.cons_who (j := 0) sA (by kernel_rfl)
                    replace sA := sA.2
                    have sl71 := AllSlots.cons_who (j := 1) sA (by kernel_rfl)
                    replace sA := sA.2
                    clear sA
                    try (have SS := Lib.hid sS; have c16 : ww.cell? ⟨bk, o + q, none⟩ = some (.int .u8 (kn : Int)) := by { have := sS.1 q (by have := HQ9.out; omega); rw [this, HEE.out.1] })
                    try (obtain ⟨p, e4, hp, x0, x1, x2, x3, hx⟩ := f30; rw [e4] at sl9; have c0 := cell_row hx 0; have c1 := cell_row hx 1; have c2 := cell_row hx 2; have c3 := cell_row hx 3; have a0 := free_row hx 0; have a1 := free_row hx 1; have a2 := free_row hx 2; have a3 := free_row hx 3; have HX := Lib.hid hx; have E4 := Lib.hid e4; clear hx)
                    try rw [f0] at sl70
                    try rw [f1] at sl71
                    try go_simp
                    refine Shut.out hK _ _ ?_ ?_ ?_
                    · (try clear hK)
                      (try dsimp only)
                      first | (with_reducible exact SS.out) | (with_reducible exact hS8) | (with_reducible exact ⟨SS.out.1.below ((Below.refl _ _).alloc (Nat.le_refl _) _), SS.out.2.trans (Keep.of_below ((Below.refl _ _).alloc (Nat.le_refl _) _))⟩) | (rw [set4 HX.out]; exact ⟨rdb_row SS.out.1 (by omega), keep_row SS.out.2 hp⟩)
                    · (try clear hK)
                      simp only [nthF]
                      (try simp only [upd, if_true, if_false, Nat.reduceEqDiff, reduceIte])
                      first | done | trivial | rfl
                    · refine ⟨?_, ?_, ?_, ?_, ?_, ?_, ?_, ?_, ?_, ?_, ?_, ?_, ?_, ?_, ?_, ?_, ?_, ?_, ?_, ?_, ?_, ?_, ?_, ?_, ?_, ?_, ?_, trivial⟩
                      all_goals (try clear hK)
                      all_goals simp only [nthF]
                      all_goals (try simp only [upd, if_true, if_false, Nat.reduceEqDiff, reduceIte])
                      all_goals first | done | with_reducible exact fun h => h | exact (fun _ => trivial) | (intro hpr; first | (with_reducible exact hpr) | (obtain ⟨p', e', hp', z0, z1, z2, z3, hz⟩ := hpr; have e6 := e'.symm.trans E4.out; injection e6 with e6; injection e6 with e6; injection e6 with e6; subst e6; refine ⟨_, e', hp', ?_⟩; rw [set4 HX.out]; exact ⟨_, _, _, _, setRow_heap _ _ _ _ _ _ HX.out⟩)) | exact fun h => h
                  · refine StepOf.introL (i := 3) rfl (some 73) rfl [2, 0, 1] [72] [0, 1, 2, 5, 6, 7, 8, 9, 10, 11, 12, 13, 14, 15, 16, 17, 18, 19, 20, 21, 22, 23, 24, 25, 26, 27, 28, 30] (by kernel_rfl) ?_
                    intro σ aa ww sS sF sU sA K hK
                    have f2 : (fun σ _ => σ 2 = .pointer (some ⟨bk, o + q, none⟩)) σ ww := sF.1; try dsimp only at f2
                    clear sF
                    have sl72 := AllSlots.cons_who (j := 2) sA (by kernel_rfl)
                    replace sA := sA.2
                    clear sA
                    try (have SS := Lib.hid sS; have c16 : ww.cell? ⟨bk, o + q, none⟩ = some (.int .u8 (kn : Int)) := by { have := sS.1 q (by have := HQ9.out; omega); rw [this, HEE.out.1] })
                    try (obtain ⟨p, e4, hp, x0, x1, x2, x3, hx⟩ := f30; rw [e4] at sl9; have c0 := cell_row hx 0; have c1 := cell_row hx 1; have c2 := cell_row hx 2; have c3 := cell_row hx 3; have a0 := free_row hx 0; have a1 := free_row hx 1; have a2 := free_row hx 2; have a3 := free_row hx 3; have HX := Lib.hid hx; have E4 := Lib.hid e4; clear hx)
                    try rw [f2] at sl72
                    try go_simp
                    refine Shut.out hK _ _ ?_ ?_ ?_
                    · (try clear hK)
                      (try dsimp only)
                      first | (with_reducible exact SS.out) | (with_reducible exact hS8) | (with_reducible exact ⟨SS.out.1.below ((Below.refl _ _).alloc (Nat.le_refl _) _), SS.out.2.trans (Keep.of_below ((Below.refl _ _).alloc (Nat.le_refl _) _))⟩) | (rw [set4 HX.out]; exact ⟨rdb_row SS.out.1 (by omega), keep_row SS.out.2 hp⟩)
                    · (try clear hK)
                      simp only [nthF]
                      (try simp only [upd, if_true, if_false, Nat.reduceEqDiff, reduceIte])
                      first | done | trivial | rfl
                    · refine ⟨?_, ?_, ?_, ?_, ?_, ?_, ?_, ?_, ?_, ?_, ?_, ?_, ?_, ?_, ?_, ?_, ?_, ?_, ?_, ?_, ?_, ?_, ?_, ?_, ?_, ?_, ?_, ?_, trivial⟩
                      all_goals (try clear hK)
                      all_goals simp only [nthF]
                      all_goals (try simp only [upd, if_true, if_false, Nat.reduceEqDiff, reduceIte])
                      all_goals first | done | with_reducible exact fun h => h | exact (fun _ => trivial) | (intro hpr; first | (with_reducible exact hpr) | (obtain ⟨p', e', hp', z0, z1, z2, z3, hz⟩ := hpr; have e6 := e'.symm.trans E4.out; injection e6 with e6; injection e6 with e6; injection e6 with e6; subst e6; refine ⟨_, e', hp', ?_⟩; rw [set4 HX.out]; exact ⟨_, _, _, _, setRow_heap _ _ _ _ _ _ HX.out⟩)) | exact fun h => h
                  · refine StepOf.introL (i := 4) rfl (some 74) rfl [3, 2, 0, 1] [73] [0, 1, 2, 3, 5, 6, 7, 8, 9, 10, 11, 12, 13, 14, 15, 16, 17, 18, 19, 20, 21, 22, 23, 24, 25, 26, 27, 28, 30] (by kernel_rfl) ?_
                    intro σ aa ww sS sF sU sA K hK
                    have f3 : (fun σ _ => σ 3 = .int .u8 (kn : Int)) σ ww := sF.1; try dsimp only at f3
                    clear sF
                    have sl73 := AllSlots.cons_who (j := 3) sA (by kernel_rfl)
                    replace sA := sA.2
                    clear sA
                    try (have SS := Lib.hid sS; have c16 : ww.cell? ⟨bk, o + q, none⟩ = some (.int .u8 (kn : Int)) := by { have := sS.1 q (by have := HQ9.out; omega); rw [this, HEE.out.1] })
                    try (obtain ⟨p, e4, hp, x0, x1, x2, x3, hx⟩ := f30; rw [e4] at sl9; have c0 := cell_row hx 0; have c1 := cell_row hx 1; have c2 := cell_row hx 2; have c3 := cell_row hx 3; have a0 := free_row hx 0; have a1 := free_row hx 1; have a2 := free_row hx 2; have a3 := free_row hx 3; have HX := Lib.hid hx; have E4 := Lib.hid e4; clear hx)
                    try rw [f3] at sl73
                    try go_simp
                    refine Shut.out hK _ _ ?_ ?_ ?_
                    · (try clear hK)
                      (try dsimp only)
                      first | (with_reducible exact SS.out) | (with_reducible exact hS8) | (with_reducible exact ⟨SS.out.1.below ((Below.refl _ _).alloc (Nat.le_refl _) _), SS.out.2.trans (Keep.of_below ((Below.refl _ _).alloc (Nat.le_refl _) _))⟩) | (rw [set4 HX.out]; exact ⟨rdb_row SS.out.1 (by omega), keep_row SS.out.2 hp⟩)
                    · (try clear hK)
                      simp only [nthF]
                      (try simp only [upd, if_true, if_false, Nat.reduceEqDiff, reduceIte])
                      first | done | trivial | rfl
                    · refine ⟨?_, ?_, ?_, ?_, ?_, ?_, ?_, ?_, ?_, ?_, ?_, ?_, ?_, ?_, ?_, ?_, ?_, ?_, ?_, ?_, ?_, ?_, ?_, ?_, ?_, ?_, ?_, ?_, ?_, trivial⟩
                      all_goals (try clear hK)
                      all_goals simp only [nthF]
                      all_goals (try simp only [upd, if_true, if_false, Nat.reduceEqDiff, reduceIte])
                      all_goals first | done | with_reducible exact fun h => h | exact (fun _ => trivial) | (intro hpr; first | (with_reducible exact hpr) | (obtain ⟨p', e', hp', z0, z1, z2, z3, hz⟩ := hpr; have e6 := e'.symm.trans E4.out; injection e6 with e6; injection e6 with e6; injection e6 with e6; subst e6; refine ⟨_, e', hp', ?_⟩; rw [set4 HX.out]; exact ⟨_, _, _, _, setRow_heap _ _ _ _ _ _ HX.out⟩)) | exact fun h => h
                  · refine StepOf.introL (i := 5) rfl (some 75) rfl [] [5] [0, 1, 2, 3, 4, 6, 7, 8, 9, 13, 14, 15, 16, 17, 18, 21, 22, 23, 24, 25, 26, 30] (by kernel_rfl) ?_
                    intro σ aa ww sS sF sU sA K hK
                    clear sF
                    have sl5 := AllSlots.cons_none sA (by kernel_rfl)
                    try simp only [List.getElem?_toArray, List.getElem?_cons_succ, List.getElem?_cons_zero] at sl5
                    replace sA := sA.2
                    clear sA
                    try (have SS := Lib.hid sS; have c16 : ww.cell? ⟨bk, o + q, none⟩ = some (.int .u8 (kn : Int)) := by { have := sS.1 q (by have := HQ9.out; omega); rw [this, HEE.out.1] })
                    try (obtain ⟨p, e4, hp, x0, x1, x2, x3, hx⟩ := f30; rw [e4] at sl9; have c0 := cell_row hx 0; have c1 := cell_row hx 1; have c2 := cell_row hx 2; have c3 := cell_row hx 3; have a0 := free_row hx 0; have a1 := free_row hx 1; have a2 := free_row hx 2; have a3 := free_row hx 3; have HX := Lib.hid hx; have E4 := Lib.hid e4; clear hx)
                    try go_simp
                    refine Shut.out hK _ _ ?_ ?_ ?_
                    · (try clear hK)
                      (try dsimp only)
                      first | (with_reducible exact SS.out) | (with_reducible exact hS8) | (with_reducible exact ⟨SS.out.1.below ((Below.refl _ _).alloc (Nat.le_refl _) _), SS.out.2.trans (Keep.of_below ((Below.refl _ _).alloc (Nat.le_refl _) _))⟩) | (rw [set4 HX.out]; exact ⟨rdb_row SS.out.1 (by omega), keep_row SS.out.2 hp⟩)
                    · (try clear hK)
                      simp only [nthF]
                      (try simp only [upd, if_true, if_false, Nat.reduceEqDiff, reduceIte])
                      first | done | trivial | rfl
                    · refine ⟨?_, ?_, ?_, ?_, ?_, ?_, ?_, ?_, ?_, ?_, ?_, ?_, ?_, ?_, ?_, ?_, ?_, ?_, ?_, ?_, ?_, ?_, trivial⟩
                      all_goals (try clear hK)
                      all_goals simp only [nthF]
                      all_goals (try simp only [upd, if_true, if_false, Nat.reduceEqDiff, reduceIte])
                      all_goals first | done | with_reducible exact fun h => h | exact (fun _ => trivial) | (intro hpr; first | (with_reducible exact hpr) | (obtain ⟨p', e', hp', z0, z1, z2, z3, hz⟩ := hpr; have e6 := e'.symm.trans E4.out; injection e6 with e6; injection e6 with e6; injection e6 with e6; subst e6; refine ⟨_, e', hp', ?_⟩; rw [set4 HX.out]; exact ⟨_, _, _, _, setRow_heap _ _ _ _ _ _ HX.out⟩)) | exact fun h => h
                  · refine StepOf.introL (i := 6) rfl (some 76) rfl [] [8] [0, 1, 2, 3, 4, 5, 8, 9, 13, 14, 15, 16, 17, 18, 21, 22, 23, 24, 25, 26, 30] (by kernel_rfl) ?_
                    intro σ aa ww sS sF sU sA K hK
                    clear sF
                    have sl8 := AllSlots.cons_none sA (by kernel_rfl)
                    try simp only [List.getElem?_toArray, List.getElem?_cons_succ, List.getElem?_cons_zero] at sl8
                    replace sA := sA.2
                    clear sA
                    try (have SS := Lib.hid sS; have c16 : ww.cell? ⟨bk, o + q, none⟩ = some (.int .u8 (kn : Int)) := by { have := sS.1 q (by have := HQ9.out; omega); rw [this, HEE.out.1] })
                    try (obtain ⟨p, e4, hp, x0, x1, x2, x3, hx⟩ := f30; rw [e4] at sl9; have c0 := cell_row hx 0; have c1 := cell_row hx 1; have c2 := cell_row hx 2; have c3 := cell_row hx 3; have a0 := free_row hx 0; have a1 := free_row hx 1; have a2 := free_row hx 2; have a3 := free_row hx 3; have HX := Lib.hid hx; have E4 := Lib.hid e4; clear hx)
                    try go_simp
                    refine Shut.out hK _ _ ?_ ?_ ?_
                    · (try clear hK)
                      (try dsimp only)
                      first | (with_reducible exact SS.out) | (with_reducible exact hS8) | (with_reducible exact ⟨SS.out.1.below ((Below.refl _ _).alloc (Nat.le_refl _) _), SS.out.2.trans (Keep.of_below ((Below.refl _ _).alloc (Nat.le_refl _) _))⟩) | (rw [set4 HX.out]; exact ⟨rdb_row SS.out.1 (by omega), keep_row SS.out.2 hp⟩)
                    · (try clear hK)
                      simp only [nthF]
                      (try simp only [upd, if_true, if_false, Nat.reduceEqDiff, reduceIte])
                      first | done | trivial | rfl
                    · refine ⟨?_, ?_, ?_, ?_, ?_, ?_, ?_, ?_, ?_, ?_, ?_, ?_, ?_, ?_, ?_, ?_, ?_, ?_, ?_, ?_, ?_, trivial⟩
                      all_goals (try clear hK)
                      all_goals simp only [nthF]
                      all_goals (try simp only [upd, if_true, if_false, Nat.reduceEqDiff, reduceIte])
                      all_goals first | done | with_reducible exact fun h => h | exact (fun _ => trivial) | (intro hpr; first | (with_reducible exact hpr) | (obtain ⟨p', e', hp', z0, z1, z2, z3, hz⟩ := hpr; have e6 := e'.symm.trans E4.out; injection e6 with e6; injection e6 with e6; injection e6 with e6; subst e6; refine ⟨_, e', hp', ?_⟩; rw [set4 HX.out]; exact ⟨_, _, _, _, setRow_heap _ _ _ _ _ _ HX.out⟩)) | exact fun h => h
                  · refine StepOf.introL (i := 7) rfl (some 77) rfl [6] [76] [0, 1, 2, 3, 4, 5, 6, 8, 9, 13, 14, 15, 16, 17, 18, 21, 22, 23, 24, 25, 26, 30] (by kernel_rfl) ?_
                    intro σ aa ww sS sF sU sA K hK
                    have f6 : (fun σ _ => σ 6 = .int .i64 (q : Int)) σ ww := sF.1; try dsimp only at f6
                    clear sF
                    have sl76 := AllSlots.cons_who (j := 6) sA (by kernel_rfl)
                    replace sA := sA.2
                    clear sA
                    try (have SS := Lib.hid sS; have c16 : ww.cell? ⟨bk, o + q, none⟩ = some (.int .u8 (kn : Int)) := by { have := sS.1 q (by have := HQ9.out; omega); rw [this, HEE.out.1] })
                    try (obtain ⟨p, e4, hp, x0, x1, x2, x3, hx⟩ := f30; rw [e4] at sl9; have c0 := cell_row hx 0; have c1 := cell_row hx 1; have c2 := cell_row hx 2; have c3 := cell_row hx 3; have a0 := free_row hx 0; have a1 := free_row hx 1; have a2 := free_row hx 2; have a3 := free_row hx 3; have HX := Lib.hid hx; have E4 := Lib.hid e4; clear hx)
                    try rw [f6] at sl76
                    try go_simp
                    refine Shut.out hK _ _ ?_ ?_ ?_
                    · (try clear hK)
                      (try dsimp only)
                      first | (with_reducible exact SS.out) | (with_reducible exact hS8) | (with_reducible exact ⟨SS.out.1.below ((Below.refl _ _).alloc (Nat.le_refl _) _), SS.out.2.trans (Keep.of_below ((Below.refl _ _).alloc (Nat.le_refl _) _))⟩) | (rw [set4 HX.out]; exact ⟨rdb_row SS.out.1 (by omega), keep_row SS.out.2 hp⟩)
                    · (try clear hK)
                      simp only [nthF]
                      (try simp only [upd, if_true, if_false, Nat.reduceEqDiff, reduceIte])
                      first | done | trivial | rfl
                    · refine ⟨?_, ?_, ?_, ?_, ?_, ?_, ?_, ?_, ?_, ?_, ?_, ?_, ?_, ?_, ?_, ?_, ?_, ?_, ?_, ?_, ?_, ?_, trivial⟩
                      all_goals (try clear hK)
                      all_goals simp only [nthF]
                      all_goals (try simp only [upd, if_true, if_false, Nat.reduceEqDiff, reduceIte])
                      all_goals first | done | with_reducible exact fun h => h | exact (fun _ => trivial) | (intro hpr; first | (with_reducible exact hpr) | (obtain ⟨p', e', hp', z0, z1, z2, z3, hz⟩ := hpr; have e6 := e'.symm.trans E4.out; injection e6 with e6; injection e6 with e6; injection e6 with e6; subst e6; refine ⟨_, e', hp', ?_⟩; rw [set4 HX.out]; exact ⟨_, _, _, _, setRow_heap _ _ _ _ _ _ HX.out⟩)) | exact fun h => h
                  · refine StepOf.introL (i := 8) rfl (some 78) rfl [] [8] [0, 1, 2, 3, 4, 5, 6, 7, 13, 14, 15, 16, 17, 18, 21, 22, 23, 24, 25, 26, 30] (by kernel_rfl) ?_
                    intro σ aa ww sS sF sU sA K hK
                    clear sF
                    have sl8 := AllSlots.cons_none sA (by kernel_rfl)
                    try simp only [List.getElem?_toArray, List.getElem?_cons_succ, List.getElem?_cons_zero] at sl8
                    replace sA := sA.2
                    clear sA
                    try (have SS := Lib.hid sS; have c16 : ww.cell? ⟨bk, o + q, none⟩ = some (.int .u8 (kn : Int)) := by { have := sS.1 q (by have := HQ9.out; omega); rw [this, HEE.out.1] })
                    try (obtain ⟨p, e4, hp, x0, x1, x2, x3, hx⟩ := f30; rw [e4] at sl9; have c0 := cell_row hx 0; have c1 := cell_row hx 1; have c2 := cell_row hx 2; have c3 := cell_row hx 3; have a0 := free_row hx 0; have a1 := free_row hx 1; have a2 := free_row hx 2; have a3 := free_row hx 3; have HX := Lib.hid hx; have E4 := Lib.hid e4; clear hx)
                    try go_simp
                    refine Shut.out hK _ _ ?_ ?_ ?_
                    · (try clear hK)
                      (try dsimp only)
                      first | (with_reducible exact SS.out) | (with_reducible exact hS8) | (with_reducible exact ⟨SS.out.1.below ((Below.refl _ _).alloc (Nat.le_refl _) _), SS.out.2.trans (Keep.of_below ((Below.refl _ _).alloc (Nat.le_refl _) _))⟩) | (rw [set4 HX.out]; exact ⟨rdb_row SS.out.1 (by omega), keep_row SS.out.2 hp⟩)
                    · (try clear hK)
                      simp only [nthF]
                      (try simp only [upd, if_true, if_false, Nat.reduceEqDiff, reduceIte])
                      first | done | trivial | rfl
                    · refine ⟨?_, ?_, ?_, ?_, ?_, ?_, ?_, ?_, ?_, ?_, ?_, ?_, ?_, ?_, ?_, ?_, ?_, ?_, ?_, ?_, ?_, trivial⟩
                      all_goals (try clear hK)
                      all_goals simp only [nthF]
                      all_goals (try simp only [upd, if_true, if_false, Nat.reduceEqDiff, reduceIte])
                      all_goals first | done | with_reducible exact fun h => h | exact (fun _ => trivial) | (intro hpr; first | (with_reducible exact hpr) | (obtain ⟨p', e', hp', z0, z1, z2, z3, hz⟩ := hpr; have e6 := e'.symm.trans E4.out; injection e6 with e6; injection e6 with e6; injection e6 with e6; subst e6; refine ⟨_, e', hp', ?_⟩; rw [set4 HX.out]; exact ⟨_, _, _, _, setRow_heap _ _ _ _ _ _ HX.out⟩)) | exact fun h => h
                  · refine StepOf.introL (i := 9) rfl (some 79) rfl [8] [78] [0, 1, 2, 3, 4, 5, 6, 7, 8, 13, 14, 15, 16, 17, 18, 21, 22, 23, 24, 25, 26, 30] (by kernel_rfl) ?_
                    intro σ aa ww sS sF sU sA K hK
                    have f8 : (fun σ _ => σ 8 = .int .i64 (q : Int)) σ ww := sF.1; try dsimp only at f8
                    clear sF
                    have sl78 := AllSlots.cons_who (j := 8) sA (by kernel_rfl)
                    replace sA := sA.2
                    clear sA
                    try (have SS := Lib.hid sS; have c16 : ww.cell? ⟨bk, o + q, none⟩ = some (.int .u8 (kn : Int)) := by { have := sS.1 q (by have := HQ9.out; omega); rw [this, HEE.out.1] })
                    try (obtain ⟨p, e4, hp, x0, x1, x2, x3, hx⟩ := f30; rw [e4] at sl9; have c0 := cell_row hx 0; have c1 := cell_row hx 1; have c2 := cell_row hx 2; have c3 := cell_row hx 3; have a0 := free_row hx 0; have a1 := free_row hx 1; have a2 := free_row hx 2; have a3 := free_row hx 3; have HX := Lib.hid hx; have E4 := Lib.hid e4; clear hx)
                    try rw [f8] at sl78
                    try go_simp
                    refine Shut.out hK _ _ ?_ ?_ ?_
                    · (try clear hK)
                      (try dsimp only)
                      first | (with_reducible exact SS.out) | (with_reducible exact hS8) | (with_reducible exact ⟨SS.out.1.below ((Below.refl _ _).alloc (Nat.le_refl _) _), SS.out.2.trans (Keep.of_below ((Below.refl _ _).alloc (Nat.le_refl _) _))⟩) | (rw [set4 HX.out]; exact ⟨rdb_row SS.out.1 (by omega), keep_row SS.out.2 hp⟩)
                    · (try clear hK)
                      simp only [nthF]
                      (try simp only [upd, if_true, if_false, Nat.reduceEqDiff, reduceIte])
                      first | done | trivial | rfl
                    · refine ⟨?_, ?_, ?_, ?_, ?_, ?_, ?_, ?_, ?_, ?_, ?_, ?_, ?_, ?_, ?_, ?_, ?_, ?_, ?_, ?_, ?_, ?_, trivial⟩
                      all_goals (try clear hK)
                      all_goals simp only [nthF]
                      all_goals (try simp only [upd, if_true, if_false, Nat.reduceEqDiff, reduceIte])
                      all_goals first | done | with_reducible exact fun h => h | exact (fun _ => trivial) | (intro hpr; first | (with_reducible exact hpr) | (obtain ⟨p', e', hp', z0, z1, z2, z3, hz⟩ := hpr; have e6 := e'.symm.trans E4.out; injection e6 with e6; injection e6 with e6; injection e6 with e6; subst e6; refine ⟨_, e', hp', ?_⟩; rw [set4 HX.out]; exact ⟨_, _, _, _, setRow_heap _ _ _ _ _ _ HX.out⟩)) | exact fun h => h
                  · refine StepOf.introL (i := 10) rfl (some 80) rfl [5, 7, 9, 8, 6] [75, 77, 79] [0, 1, 2, 3, 4, 5, 6, 7, 8, 9, 13, 14, 15, 16, 17, 18, 21, 22, 23, 24, 25, 26, 30] (by kernel_rfl) ?_
                    intro σ aa ww sS sF sU sA K hK
                    have f5 : (fun σ _ => σ 5 = .slice (some ⟨bk, o, none⟩) b.length cp) σ ww := sF.1; try dsimp only at f5
                    have f7 : (fun σ _ => σ 7 = .int .i64 ((q : Int) + 1)) σ ww := sF.2.1; try dsimp only at f7
                    have f9 : (fun σ _ => σ 9 = .int .i64 ((q : Int) + 3)) σ ww := sF.2.2.1; try dsimp only at f9
                    clear sF
                    have sl75 := AllSlots.cons_who (j := 5) sA (by kernel_rfl)
                    replace sA := sA.2
                    have sl77 := AllSlots.cons_who (j := 7) sA (by kernel_rfl)
                    replace sA := sA.2
                    have sl79 := AllSlots.cons_who (j := 9) sA (by kernel_rfl)
                    replace sA := sA.2
                    clear sA
                    try (have SS := Lib.hid sS; have c16 : ww.cell? ⟨bk, o + q, none⟩ = some (.int .u8 (kn : Int)) := by { have := sS.1 q (by have := HQ9.out; omega); rw [this, HEE.out.1] })
                    try (obtain ⟨p, e4, hp, x0, x1, x2, x3, hx⟩ := f30; rw [e4] at sl9; have c0 := cell_row hx 0; have c1 := cell_row hx 1; have c2 := cell_row hx 2; have c3 := cell_row hx 3; have a0 := free_row hx 0; have a1 := free_row hx 1; have a2 := free_row hx 2; have a3 := free_row hx 3; have HX := Lib.hid hx; have E4 := Lib.hid e4; clear hx)
                    try rw [f5] at sl75
                    try rw [f7] at sl77
                    try rw [f9] at sl79
                    try go_simp
                    refine Shut.out hK _ _ ?_ ?_ ?_
                    · (try clear hK)
                      (try dsimp only)
                      first | (with_reducible exact SS.out) | (with_reducible exact hS8) | (with_reducible exact ⟨SS.out.1.below ((Below.refl _ _).alloc (Nat.le_refl _) _), SS.out.2.trans (Keep.of_below ((Below.refl _ _).alloc (Nat.le_refl _) _))⟩) | (rw [set4 HX.out]; exact ⟨rdb_row SS.out.1 (by omega), keep_row SS.out.2 hp⟩)
                    · (try clear hK)
                      simp only [nthF]
                      (try simp only [upd, if_true, if_false, Nat.reduceEqDiff, reduceIte])
                      first | done | trivial | rfl
                    · refine ⟨?_, ?_, ?_, ?_, ?_, ?_, ?_, ?_, ?_, ?_, ?_, ?_, ?_, ?_, ?_, ?_, ?_, ?_, ?_, ?_, ?_, ?_, ?_, trivial⟩
                      all_goals (try clear hK)
                      all_goals simp only [nthF]
                      all_goals (try simp only [upd, if_true, if_false, Nat.reduceEqDiff, reduceIte])
                      all_goals first | done | with_reducible exact fun h => h | exact (fun _ => trivial) | (intro hpr; first | (with_reducible exact hpr) | (obtain ⟨p', e', hp', z0, z1, z2, z3, hz⟩ := hpr; have e6 := e'.symm.trans E4.out; injection e6 with e6; injection e6 with e6; injection e6 with e6; subst e6; refine ⟨_, e', hp', ?_⟩; rw [set4 HX.out]; exact ⟨_, _, _, _, setRow_heap _ _ _ _ _ _ HX.out⟩)) | exact fun h => h
                  · refine StepOf.introL (i := 11) rfl (some 81) rfl [10, 5, 7, 9, 8, 6] [80] [0, 1, 2, 3, 4, 5, 6, 7, 8, 9, 10, 13, 14, 15, 16, 17, 18, 21, 22, 23, 24, 25, 26, 30] (by kernel_rfl) ?_
                    intro σ aa ww sS sF sU sA K hK
                    have f10 : (fun σ _ => σ 10 = .slice (some ⟨bk, o + (q + 1), none⟩) 2 (cp - (q + 1))) σ ww := sF.1; try dsimp only at f10
                    clear sF
                    have sl80 := AllSlots.cons_who (j := 10) sA (by kernel_rfl)
                    replace sA := sA.2
                    clear sA
                    try (have SS := Lib.hid sS; have c16 : ww.cell? ⟨bk, o + q, none⟩ = some (.int .u8 (kn : Int)) := by { have := sS.1 q (by have := HQ9.out; omega); rw [this, HEE.out.1] })
                    try (obtain ⟨p, e4, hp, x0, x1, x2, x3, hx⟩ := f30; rw [e4] at sl9; have c0 := cell_row hx 0; have c1 := cell_row hx 1; have c2 := cell_row hx 2; have c3 := cell_row hx 3; have a0 := free_row hx 0; have a1 := free_row hx 1; have a2 := free_row hx 2; have a3 := free_row hx 3; have HX := Lib.hid hx; have E4 := Lib.hid e4; clear hx)
                    try rw [f10] at sl80
                    try go_simp
                    first | (go_at_call 60; with_reducible refine ((r1 _ SS.out.1).out).mono ?_; rintro e w2 ⟨rfl, rfl⟩) | (go_at_call 60; with_reducible refine ((r3 _ SS.out.1).out).mono ?_; rintro e w2 ⟨rfl, rfl⟩) | (go_at_call 60; with_reducible refine ((r7 _ SS.out.1).out).mono ?_; rintro e w2 ⟨rfl, rfl⟩)
                    refine Shut.out hK _ _ ?_ ?_ ?_
                    · (try clear hK)
                      (try dsimp only)
                      first | (with_reducible exact SS.out) | (with_reducible exact hS8) | (with_reducible exact ⟨SS.out.1.below ((Below.refl _ _).alloc (Nat.le_refl _) _), SS.out.2.trans (Keep.of_below ((Below.refl _ _).alloc (Nat.le_refl _) _))⟩) | (rw [set4 HX.out]; exact ⟨rdb_row SS.out.1 (by omega), keep_row SS.out.2 hp⟩)
                    · (try clear hK)
                      simp only [nthF]
                      (try simp only [upd, if_true, if_false, Nat.reduceEqDiff, reduceIte])
                      first | done | trivial | rfl
                    · refine ⟨?_, ?_, ?_, ?_, ?_, ?_, ?_, ?_, ?_, ?_, ?_, ?_, ?_, ?_, ?_, ?_, ?_, ?_, ?_, ?_, ?_, ?_, ?_, ?_, trivial⟩
                      all_goals (try clear hK)
                      all_goals simp only [nthF]
                      all_goals (try simp only [upd, if_true, if_false, Nat.reduceEqDiff, reduceIte])
                      all_goals first | done | with_reducible exact fun h => h | exact (fun _ => trivial) | (intro hpr; first | (with_reducible exact hpr) | (obtain ⟨p', e', hp', z0, z1, z2, z3, hz⟩ := hpr; have e6 := e'.symm.trans E4.out; injection e6 with e6; injection e6 with e6; injection e6 with e6; subst e6; refine ⟨_, e', hp', ?_⟩; rw [set4 HX.out]; exact ⟨_, _, _, _, setRow_heap _ _ _ _ _ _ HX.out⟩)) | exact fun h => h
                  · refine StepOf.introL (i := 12) rfl (some 82) rfl [11, 10, 5, 7, 9, 8, 6] [81] [0, 1, 2, 3, 4, 5, 6, 7, 8, 9, 10, 11, 13, 14, 15, 16, 17, 18, 19, 20, 21, 22, 23, 24, 25, 26, 27, 28, 30] (by kernel_rfl) ?_
                    intro σ aa ww sS sF sU sA K hK
                    have f11 : (fun σ _ => σ 11 = .int .u64 (en : Int)) σ ww := sF.1; try dsimp only at f11
                    clear sF
                    have sl81 := AllSlots.cons_who (j := 11) sA (by kernel_rfl)
                    replace sA := sA.2
                    clear sA
                    try (have SS := Lib.hid sS; have c16 : ww.cell? ⟨bk, o + q, none⟩ = some (.int .u8 (kn : Int)) := by { have := sS.1 q (by have := HQ9.out; omega); rw [this, HEE.out.1] })
                    try (obtain ⟨p, e4, hp, x0, x1, x2, x3, hx⟩ := f30; rw [e4] at sl9; have c0 := cell_row hx 0; have c1 := cell_row hx 1; have c2 := cell_row hx 2; have c3 := cell_row hx 3; have a0 := free_row hx 0; have a1 := free_row hx 1; have a2 := free_row hx 2; have a3 := free_row hx 3; have HX := Lib.hid hx; have E4 := Lib.hid e4; clear hx)
                    try rw [f11] at sl81
                    try go_simp
                    refine Shut.out hK _ _ ?_ ?_ ?_
                    · (try clear hK)
                      (try dsimp only)
                      first | (with_reducible exact SS.out) | (with_reducible exact hS8) | (with_reducible exact ⟨SS.out.1.below ((Below.refl _ _).alloc (Nat.le_refl _) _), SS.out.2.trans (Keep.of_below ((Below.refl _ _).alloc (Nat.le_refl _) _))⟩) | (rw [set4 HX.out]; exact ⟨rdb_row SS.out.1 (by omega), keep_row SS.out.2 hp⟩)
                    · (try clear hK)
                      simp only [nthF]
                      (try simp only [upd, if_true, if_false, Nat.reduceEqDiff, reduceIte])
                      first | done | trivial | rfl
                    · refine ⟨?_, ?_, ?_, ?_, ?_, ?_, ?_, ?_, ?_, ?_, ?_, ?_, ?_, ?_, ?_, ?_, ?_, ?_, ?_, ?_, ?_, ?_, ?_, ?_, ?_, ?_, ?_, ?_, ?_, trivial⟩
                      all_goals (try clear hK)
                      all_goals simp only [nthF]
                      all_goals (try simp only [upd, if_true, if_false, Nat.reduceEqDiff, reduceIte])
                      all_goals first | done | with_reducible exact fun h => h | exact (fun _ => trivial) | (intro hpr; first | (with_reducible exact hpr) | (obtain ⟨p', e', hp', z0, z1, z2, z3, hz⟩ := hpr; have e6 := e'.symm.trans E4.out; injection e6 with e6; injection e6 with e6; injection e6 with e6; subst e6; refine ⟨_, e', hp', ?_⟩; rw [set4 HX.out]; exact ⟨_, _, _, _, setRow_heap _ _ _ _ _ _ HX.out⟩)) | exact fun h => h
                  · refine StepOf.introL (i := 13) rfl (some 83) rfl [] [5] [0, 1, 2, 3, 4, 5, 6, 7, 8, 9, 10, 11, 12, 14, 15, 16, 17, 21, 22, 23, 24, 25, 26, 30] (by kernel_rfl) ?_
                    intro σ aa ww sS sF sU sA K hK
                    clear sF
                    have sl5 := AllSlots.cons_none sA (by kernel_rfl)
                    try simp only [List.getElem?_toArray, List.getElem?_cons_succ, List.getElem?_cons_zero] at sl5
                    replace sA := sA.2
                    clear sA
                    try (have SS := Lib.hid sS; have c16 : ww.cell? ⟨bk, o + q, none⟩ = some (.int .u8 (kn : Int)) := by { have := sS.1 q (by have := HQ9.out; omega); rw [this, HEE.out.1] })
                    try (obtain ⟨p, e4, hp, x0, x1, x2, x3, hx⟩ := f30; rw [e4] at sl9; have c0 := cell_row hx 0; have c1 := cell_row hx 1; have c2 := cell_row hx 2; have c3 := cell_row hx 3; have a0 := free_row hx 0; have a1 := free_row hx 1; have a2 := free_row hx 2; have a3 := free_row hx 3; have HX := Lib.hid hx; have E4 := Lib.hid e4; clear hx)
                    try go_simp
                    refine Shut.out hK _ _ ?_ ?_ ?_
                    · (try clear hK)
                      (try dsimp only)
                      first | (with_reducible exact SS.out) | (with_reducible exact hS8) | (with_reducible exact ⟨SS.out.1.below ((Below.refl _ _).alloc (Nat.le_refl _) _), SS.out.2.trans (Keep.of_below ((Below.refl _ _).alloc (Nat.le_refl _) _))⟩) | (rw [set4 HX.out]; exact ⟨rdb_row SS.out.1 (by omega), keep_row SS.out.2 hp⟩)
                    · (try clear hK)
                      simp only [nthF]
                      (try simp only [upd, if_true, if_false, Nat.reduceEqDiff, reduceIte])
                      first | done | trivial | rfl
                    · refine ⟨?_, ?_, ?_, ?_, ?_, ?_, ?_, ?_, ?_, ?_, ?_, ?_, ?_, ?_, ?_, ?_, ?_, ?_, ?_, ?_, ?_, ?_, ?_, ?_, trivial⟩
                      all_goals (try clear hK)
                      all_goals simp only [nthF]
                      all_goals (try simp only [upd, if_true, if_false, Nat.reduceEqDiff, reduceIte])
                      all_goals first | done | with_reducible exact fun h => h | exact (fun _ => trivial) | (intro hpr; first | (with_reducible exact hpr) | (obtain ⟨p', e', hp', z0, z1, z2, z3, hz⟩ := hpr; have e6 := e'.symm.trans E4.out; injection e6 with e6; injection e6 with e6; injection e6 with e6; subst e6; refine ⟨_, e', hp', ?_⟩; rw [set4 HX.out]; exact ⟨_, _, _, _, setRow_heap _ _ _ _ _ _ HX.out⟩)) | exact fun h => h
                  · refine StepOf.introL (i := 14) rfl (some 84) rfl [] [8] [0, 1, 2, 3, 4, 5, 6, 7, 8, 9, 10, 11, 12, 13, 16, 17, 21, 22, 23, 24, 25, 26, 30] (by kernel_rfl) ?_
                    intro σ aa ww sS sF sU sA K hK
                    clear sF
                    have sl8 := AllSlots.cons_none sA (by kernel_rfl)
                    try simp only [List.getElem?_toArray, List.getElem?_cons_succ, List.getElem?_cons_zero] at sl8
                    replace sA := sA.2
                    clear sA
                    try (have SS := Lib.hid sS; have c16 : ww.cell? ⟨bk, o + q, none⟩ = some (.int .u8 (kn : Int)) := by { have := sS.1 q (by have := HQ9.out; omega); rw [this, HEE.out.1] })
                    try (obtain ⟨p, e4, hp, x0, x1, x2, x3, hx⟩ := f30; rw [e4] at sl9; have c0 := cell_row hx 0; have c1 := cell_row hx 1; have c2 := cell_row hx 2; have c3 := cell_row hx 3; have a0 := free_row hx 0; have a1 := free_row hx 1; have a2 := free_row hx 2; have a3 := free_row hx 3; have HX := Lib.hid hx; have E4 := Lib.hid e4; clear hx)
                    try go_simp
                    refine Shut.out hK _ _ ?_ ?_ ?_
                    · (try clear hK)
                      (try dsimp only)
                      first | (with_reducible exact SS.out) | (with_reducible exact hS8) | (with_reducible exact ⟨SS.out.1.below ((Below.refl _ _).alloc (Nat.le_refl _) _), SS.out.2.trans (Keep.of_below ((Below.refl _ _).alloc (Nat.le_refl _) _))⟩) | (rw [set4 HX.out]; exact ⟨rdb_row SS.out.1 (by omega), keep_row SS.out.2 hp⟩)
                    · (try clear hK)
                      simp only [nthF]
                      (try simp only [upd, if_true, if_false, Nat.reduceEqDiff, reduceIte])
                      first | done | trivial | rfl
                    · refine ⟨?_, ?_, ?_, ?_, ?_, ?_, ?_, ?_, ?_, ?_, ?_, ?_, ?_, ?_, ?_, ?_, ?_, ?_, ?_, ?_, ?_, ?_, ?_, trivial⟩
                      all_goals (try clear hK)
                      all_goals simp only [nthF]
                      all_goals (try simp only [upd, if_true, if_false, Nat.reduceEqDiff, reduceIte])
                      all_goals first | done | with_reducible exact fun h => h | exact (fun _ => trivial) | (intro hpr; first | (with_reducible exact hpr) | (obtain ⟨p', e', hp', z0, z1, z2, z3, hz⟩ := hpr; have e6 := e'.symm.trans E4.out; injection e6 with e6; injection e6 with e6; injection e6 with e6; subst e6; refine ⟨_, e', hp', ?_⟩; rw [set4 HX.out]; exact ⟨_, _, _, _, setRow_heap _ _ _ _ _ _ HX.out⟩)) | exact fun h => h
                  · refine StepOf.introL (i := 15) rfl (some 85) rfl [14] [84] [0, 1, 2, 3, 4, 5, 6, 7, 8, 9, 10, 11, 12, 13, 14, 16, 17, 21, 22, 23, 24, 25, 26, 30] (by kernel_rfl) ?_
                    intro σ aa ww sS sF sU sA K hK
                    have f14 : (fun σ _ => σ 14 = .int .i64 (q : Int)) σ ww := sF.1; try dsimp only at f14
                    clear sF
                    have sl84 := AllSlots.cons_who (j := 14) sA (by kernel_rfl)
                    replace sA := sA.2
                    clear sA
                    try (have SS := Lib.hid sS; have c16 : ww.cell? ⟨bk, o + q, none⟩ = some (.int .u8 (kn : Int)) := by { have := sS.1 q (by have := HQ9.out; omega); rw [this, HEE.out.1] })
                    try (obtain ⟨p, e4, hp, x0, x1, x2, x3, hx⟩ := f30; rw [e4] at sl9; have c0 := cell_row hx 0; have c1 := cell_row hx 1; have c2 := cell_row hx 2; have c3 := cell_row hx 3; have a0 := free_row hx 0; have a1 := free_row hx 1; have a2 := free_row hx 2; have a3 := free_row hx 3; have HX := Lib.hid hx; have E4 := Lib.hid e4; clear hx)
                    try rw [f14] at sl84
                    try go_simp
                    refine Shut.out hK _ _ ?_ ?_ ?_
                    · (try clear hK)
                      (try dsimp only)
                      first | (with_reducible exact SS.out) | (with_reducible exact hS8) | (with_reducible exact ⟨SS.out.1.below ((Below.refl _ _).alloc (Nat.le_refl _) _), SS.out.2.trans (Keep.of_below ((Below.refl _ _).alloc (Nat.le_refl _) _))⟩) | (rw [set4 HX.out]; exact ⟨rdb_row SS.out.1 (by omega), keep_row SS.out.2 hp⟩)
                    · (try clear hK)
                      simp only [nthF]
                      (try simp only [upd, if_true, if_false, Nat.reduceEqDiff, reduceIte])
                      first | done | trivial | rfl
                    · refine ⟨?_, ?_, ?_, ?_, ?_, ?_, ?_, ?_, ?_, ?_, ?_, ?_, ?_, ?_, ?_, ?_, ?_, ?_, ?_, ?_, ?_, ?_, ?_, ?_, trivial⟩
                      all_goals (try clear hK)
                      all_goals simp only [nthF]
                      all_goals (try simp only [upd, if_true, if_false, Nat.reduceEqDiff, reduceIte])
                      all_goals first | done | with_reducible exact fun h => h | exact (fun _ => trivial) | (intro hpr; first | (with_reducible exact hpr) | (obtain ⟨p', e', hp', z0, z1, z2, z3, hz⟩ := hpr; have e6 := e'.symm.trans E4.out; injection e6 with e6; injection e6 with e6; injection e6 with e6; subst e6; refine ⟨_, e', hp', ?_⟩; rw [set4 HX.out]; exact ⟨_, _, _, _, setRow_heap _ _ _ _ _ _ HX.out⟩)) | exact fun h => h
                  · refine StepOf.introL (i := 16) rfl (some 86) rfl [] [8] [0, 1, 2, 3, 4, 5, 6, 7, 8, 9, 10, 11, 12, 13, 14, 15, 21, 22, 23, 24, 25, 26, 30] (by kernel_rfl) ?_
                    intro σ aa ww sS sF sU sA K hK
                    clear sF
                    have sl8 := AllSlots.cons_none sA (by kernel_rfl)
                    try simp only [List.getElem?_toArray, List.getElem?_cons_succ, List.getElem?_cons_zero] at sl8
                    replace sA := sA.2
                    clear sA
                    try (have SS := Lib.hid sS; have c16 : ww.cell? ⟨bk, o + q, none⟩ = some (.int .u8 (kn : Int)) := by { have := sS.1 q (by have := HQ9.out; omega); rw [this, HEE.out.1] })
                    try (obtain ⟨p, e4, hp, x0, x1, x2, x3, hx⟩ := f30; rw [e4] at sl9; have c0 := cell_row hx 0; have c1 := cell_row hx 1; have c2 := cell_row hx 2; have c3 := cell_row hx 3; have a0 := free_row hx 0; have a1 := free_row hx 1; have a2 := free_row hx 2; have a3 := free_row hx 3; have HX := Lib.hid hx; have E4 := Lib.hid e4; clear hx)
                    try go_simp
                    refine Shut.out hK _ _ ?_ ?_ ?_
                    · (try clear hK)
                      (try dsimp only)
                      first | (with_reducible exact SS.out) | (with_reducible exact hS8) | (with_reducible exact ⟨SS.out.1.below ((Below.refl _ _).alloc (Nat.le_refl _) _), SS.out.2.trans (Keep.of_below ((Below.refl _ _).alloc (Nat.le_refl _) _))⟩) | (rw [set4 HX.out]; exact ⟨rdb_row SS.out.1 (by omega), keep_row SS.out.2 hp⟩)
                    · (try clear hK)
                      simp only [nthF]
                      (try simp only [upd, if_true, if_false, Nat.reduceEqDiff, reduceIte])
                      first | done | trivial | rfl
                    · refine ⟨?_, ?_, ?_, ?_, ?_, ?_, ?_, ?_, ?_, ?_, ?_, ?_, ?_, ?_, ?_, ?_, ?_, ?_, ?_, ?_, ?_, ?_, ?_, trivial⟩
                      all_goals (try clear hK)
                      all_goals simp only [nthF]
                      all_goals (try simp only [upd, if_true, if_false, Nat.reduceEqDiff, reduceIte])
                      all_goals first | done | with_reducible exact fun h => h | exact (fun _ => trivial) | (intro hpr; first | (with_reducible exact hpr) | (obtain ⟨p', e', hp', z0, z1, z2, z3, hz⟩ := hpr; have e6 := e'.symm.trans E4.out; injection e6 with e6; injection e6 with e6; injection e6 with e6; subst e6; refine ⟨_, e', hp', ?_⟩; rw [set4 HX.out]; exact ⟨_, _, _, _, setRow_heap _ _ _ _ _ _ HX.out⟩)) | exact fun h => h
                  · refine StepOf.introL (i := 17) rfl (some 87) rfl [16] [86] [0, 1, 2, 3, 4, 5, 6, 7, 8, 9, 10, 11, 12, 13, 14, 15, 16, 21, 22, 23, 24, 25, 26, 30] (by kernel_rfl) ?_
                    intro σ aa ww sS sF sU sA K hK
                    have f16 : (fun σ _ => σ 16 = .int .i64 (q : Int)) σ ww := sF.1; try dsimp only at f16
                    clear sF
                    have sl86 := AllSlots.cons_who (j := 16) sA (by kernel_rfl)
                    replace sA := sA.2
                    clear sA
                    try (have SS := Lib.hid sS; have c16 : ww.cell? ⟨bk, o + q, none⟩ = some (.int .u8 (kn : Int)) := by { have := sS.1 q (by have := HQ9.out; omega); rw [this, HEE.out.1] })
                    try (obtain ⟨p, e4, hp, x0, x1, x2, x3, hx⟩ := f30; rw [e4] at sl9; have c0 := cell_row hx 0; have c1 := cell_row hx 1; have c2 := cell_row hx 2; have c3 := cell_row hx 3; have a0 := free_row hx 0; have a1 := free_row hx 1; have a2 := free_row hx 2; have a3 := free_row hx 3; have HX := Lib.hid hx; have E4 := Lib.hid e4; clear hx)
                    try rw [f16] at sl86
                    try go_simp
                    refine Shut.out hK _ _ ?_ ?_ ?_
                    · (try clear hK)
                      (try dsimp only)
                      first | (with_reducible exact SS.out) | (with_reducible exact hS8) | (with_reducible exact ⟨SS.out.1.below ((Below.refl _ _).alloc (Nat.le_refl _) _), SS.out.2.trans (Keep.of_below ((Below.refl _ _).alloc (Nat.le_refl _) _))⟩) | (rw [set4 HX.out]; exact ⟨rdb_row SS.out.1 (by omega), keep_row SS.out.2 hp⟩)
                    · (try clear hK)
                      simp only [nthF]
                      (try simp only [upd, if_true, if_false, Nat.reduceEqDiff, reduceIte])
                      first | done | trivial | rfl
                    · refine ⟨?_, ?_, ?_, ?_, ?_, ?_, ?_, ?_, ?_, ?_, ?_, ?_, ?_, ?_, ?_, ?_, ?_, ?_, ?_, ?_, ?_, ?_, ?_, ?_, trivial⟩
                      all_goals (try clear hK)
                      all_goals simp only [nthF]
                      all_goals (try simp only [upd, if_true, if_false, Nat.reduceEqDiff, reduceIte])
                      all_goals first | done | with_reducible exact fun h => h | exact (fun _ => trivial) | (intro hpr; first | (with_reducible exact hpr) | (obtain ⟨p', e', hp', z0, z1, z2, z3, hz⟩ := hpr; have e6 := e'.symm.trans E4.out; injection e6 with e6; injection e6 with e6; injection e6 with e6; subst e6; refine ⟨_, e', hp', ?_⟩; rw [set4 HX.out]; exact ⟨_, _, _, _, setRow_heap _ _ _ _ _ _ HX.out⟩)) | exact fun h => h
                  · refine StepOf.introL (i := 18) rfl (some 88) rfl [13, 15, 17, 16, 14] [83, 85, 87] [0, 1, 2, 3, 4, 5, 6, 7, 8, 9, 10, 11, 12, 13, 14, 15, 16, 17, 21, 22, 23, 24, 25, 26, 30] (by kernel_rfl) ?_
                    intro σ aa ww sS sF sU sA K hK
                    have f13 : (fun σ _ => σ 13 = .slice (some ⟨bk, o, none⟩) b.length cp) σ ww := sF.1; try dsimp only at f13
                    have f15 : (fun σ _ => σ 15 = .int .i64 ((q : Int) + 3)) σ ww := sF.2.1; try dsimp only at f15
                    have f17 : (fun σ _ => σ 17 = .int .i64 ((q : Int) + 7)) σ ww := sF.2.2.1; try dsimp only at f17
                    clear sF
                    have sl83 := AllSlots.cons_who (j := 13) sA (by kernel_rfl)
                    replace sA := sA.2
                    have sl85 := AllSlots.cons_who (j := 15) sA (by kernel_rfl)
                    replace sA := sA.2
                    have sl87 := AllSlots.cons_who (j := 17) sA (by kernel_rfl)
                    replace sA := sA.2
                    clear sA
                    try (have SS := Lib.hid sS; have c16 : ww.cell? ⟨bk, o + q, none⟩ = some (.int .u8 (kn : Int)) := by { have := sS.1 q (by have := HQ9.out; omega); rw [this, HEE.out.1] })
                    try (obtain ⟨p, e4, hp, x0, x1, x2, x3, hx⟩ := f30; rw [e4] at sl9; have c0 := cell_row hx 0; have c1 := cell_row hx 1; have c2 := cell_row hx 2; have c3 := cell_row hx 3; have a0 := free_row hx 0; have a1 := free_row hx 1; have a2 := free_row hx 2; have a3 := free_row hx 3; have HX := Lib.hid hx; have E4 := Lib.hid e4; clear hx)
                    try rw [f13] at sl83
                    try rw [f15] at sl85
                    try rw [f17] at sl87
                    try go_simp
                    refine Shut.out hK _ _ ?_ ?_ ?_
                    · (try clear hK)
                      (try dsimp only)
                      first | (with_reducible exact SS.out) | (with_reducible exact hS8) | (with_reducible exact ⟨SS.out.1.below ((Below.refl _ _).alloc (Nat.le_refl _) _), SS.out.2.trans (Keep.of_below ((Below.refl _ _).alloc (Nat.le_refl _) _))⟩) | (rw [set4 HX.out]; exact ⟨rdb_row SS.out.1 (by omega), keep_row SS.out.2 hp⟩)
                    · (try clear hK)
                      simp only [nthF]
                      (try simp only [upd, if_true, if_false, Nat.reduceEqDiff, reduceIte])
                      first | done | trivial | rfl
                    · refine ⟨?_, ?_, ?_, ?_, ?_, ?_, ?_, ?_, ?_, ?_, ?_, ?_, ?_, ?_, ?_, ?_, ?_, ?_, ?_, ?_, ?_, ?_, ?_, ?_, ?_, trivial⟩
                      all_goals (try clear hK)
                      all_goals simp only [nthF]
                      all_goals (try simp only [upd, if_true, if_false, Nat.reduceEqDiff, reduceIte])
                      all_goals first | done | with_reducible exact fun h => h | exact (fun _ => trivial) | (intro hpr; first | (with_reducible exact hpr) | (obtain ⟨p', e', hp', z0, z1, z2, z3, hz⟩ := hpr; have e6 := e'.symm.trans E4.out; injection e6 with e6; injection e6 with e6; injection e6 with e6; subst e6; refine ⟨_, e', hp', ?_⟩; rw [set4 HX.out]; exact ⟨_, _, _, _, setRow_heap _ _ _ _ _ _ HX.out⟩)) | exact fun h => h
                  · refine StepOf.introL (i := 19) rfl (some 89) rfl [18, 11, 13, 15, 17, 16, 14, 10, 5, 7, 9, 8, 6] [88] [0, 1, 2, 3, 4, 5, 6, 7, 8, 9, 10, 11, 12, 13, 14, 15, 16, 17, 18, 21, 22, 23, 24, 25, 26, 30] (by kernel_rfl) ?_
                    intro σ aa ww sS sF sU sA K hK
                    have f18 : (fun σ _ => σ 18 = .slice (some ⟨bk, o + (q + 3), none⟩) 4 (cp - (q + 3))) σ ww := sF.1; try dsimp only at f18
                    clear sF
                    have sl88 := AllSlots.cons_who (j := 18) sA (by kernel_rfl)
                    replace sA := sA.2
                    clear sA
                    try (have SS := Lib.hid sS; have c16 : ww.cell? ⟨bk, o + q, none⟩ = some (.int .u8 (kn : Int)) := by { have := sS.1 q (by have := HQ9.out; omega); rw [this, HEE.out.1] })
                    try (obtain ⟨p, e4, hp, x0, x1, x2, x3, hx⟩ := f30; rw [e4] at sl9; have c0 := cell_row hx 0; have c1 := cell_row hx 1; have c2 := cell_row hx 2; have c3 := cell_row hx 3; have a0 := free_row hx 0; have a1 := free_row hx 1; have a2 := free_row hx 2; have a3 := free_row hx 3; have HX := Lib.hid hx; have E4 := Lib.hid e4; clear hx)
                    try rw [f18] at sl88
                    try go_simp
                    first | (go_at_call 60; with_reducible refine ((r1 _ SS.out.1).out).mono ?_; rintro e w2 ⟨rfl, rfl⟩) | (go_at_call 60; with_reducible refine ((r3 _ SS.out.1).out).mono ?_; rintro e w2 ⟨rfl, rfl⟩) | (go_at_call 60; with_reducible refine ((r7 _ SS.out.1).out).mono ?_; rintro e w2 ⟨rfl, rfl⟩)
                    refine Shut.out hK _ _ ?_ ?_ ?_
                    · (try clear hK)
                      (try dsimp only)
                      first | (with_reducible exact SS.out) | (with_reducible exact hS8) | (with_reducible exact ⟨SS.out.1.below ((Below.refl _ _).alloc (Nat.le_refl _) _), SS.out.2.trans (Keep.of_below ((Below.refl _ _).alloc (Nat.le_refl _) _))⟩) | (rw [set4 HX.out]; exact ⟨rdb_row SS.out.1 (by omega), keep_row SS.out.2 hp⟩)
                    · (try clear hK)
                      simp only [nthF]
                      (try simp only [upd, if_true, if_false, Nat.reduceEqDiff, reduceIte])
                      first | done | trivial | rfl
                    · refine ⟨?_, ?_, ?_, ?_, ?_, ?_, ?_, ?_, ?_, ?_, ?_, ?_, ?_, ?_, ?_, ?_, ?_, ?_, ?_, ?_, ?_, ?_, ?_, ?_, ?_, ?_, trivial⟩
                      all_goals (try clear hK)
                      all_goals simp only [nthF]
                      all_goals (try simp only [upd, if_true, if_false, Nat.reduceEqDiff, reduceIte])
                      all_goals first | done | with_reducible exact fun h => h | exact (fun _ => trivial) | (intro hpr; first | (with_reducible exact hpr) | (obtain ⟨p', e', hp', z0, z1, z2, z3, hz⟩ := hpr; have e6 := e'.symm.trans E4.out; injection e6 with e6; injection e6 with e6; injection e6 with e6; subst e6; refine ⟨_, e', hp', ?_⟩; rw [set4 HX.out]; exact ⟨_, _, _, _, setRow_heap _ _ _ _ _ _ HX.out⟩)) | exact fun h => h
                  · refine StepOf.introL (i := 20) rfl (some 90) rfl [19, 18, 11, 13, 15, 17, 16, 14, 10, 5, 7, 9, 8, 6] [89] [0, 1, 2, 3, 4, 5, 6, 7, 8, 9, 10, 11, 12, 13, 14, 15, 16, 17, 18, 19, 21, 22, 23, 24, 25, 26, 27, 28, 30] (by kernel_rfl) ?_
                    intro σ aa ww sS sF sU sA K hK
                    have f19 : (fun σ _ => σ 19 = .int .u64 (ev : Int)) σ ww := sF.1; try dsimp only at f19
                    clear sF
                    have sl89 := AllSlots.cons_who (j := 19) sA (by kernel_rfl)
                    replace sA := sA.2
                    clear sA
                    try (have SS := Lib.hid sS; have c16 : ww.cell? ⟨bk, o + q, none⟩ = some (.int .u8 (kn : Int)) := by { have := sS.1 q (by have := HQ9.out; omega); rw [this, HEE.out.1] })
                    try (obtain ⟨p, e4, hp, x0, x1, x2, x3, hx⟩ := f30; rw [e4] at sl9; have c0 := cell_row hx 0; have c1 := cell_row hx 1; have c2 := cell_row hx 2; have c3 := cell_row hx 3; have a0 := free_row hx 0; have a1 := free_row hx 1; have a2 := free_row hx 2; have a3 := free_row hx 3; have HX := Lib.hid hx; have E4 := Lib.hid e4; clear hx)
                    try rw [f19] at sl89
                    try go_simp
                    refine Shut.out hK _ _ ?_ ?_ ?_
                    · (try clear hK)
                      (try dsimp only)
                      first | (with_reducible exact SS.out) | (with_reducible exact hS8) | (with_reducible exact ⟨SS.out.1.below ((Below.refl _ _).alloc (Nat.le_refl _) _), SS.out.2.trans (Keep.of_below ((Below.refl _ _).alloc (Nat.le_refl _) _))⟩) | (rw [set4 HX.out]; exact ⟨rdb_row SS.out.1 (by omega), keep_row SS.out.2 hp⟩)
                    · (try clear hK)
                      simp only [nthF]
                      (try simp only [upd, if_true, if_false, Nat.reduceEqDiff, reduceIte])
                      first | done | trivial | rfl
                    · refine ⟨?_, ?_, ?_, ?_, ?_, ?_, ?_, ?_, ?_, ?_, ?_, ?_, ?_, ?_, ?_, ?_, ?_, ?_, ?_, ?_, ?_, ?_, ?_, ?_, ?_, ?_, ?_, ?_, ?_, trivial⟩
                      all_goals (try clear hK)
                      all_goals simp only [nthF]
                      all_goals (try simp only [upd, if_true, if_false, Nat.reduceEqDiff, reduceIte])
                      all_goals first | done | with_reducible exact fun h => h | exact (fun _ => trivial) | (intro hpr; first | (with_reducible exact hpr) | (obtain ⟨p', e', hp', z0, z1, z2, z3, hz⟩ := hpr; have e6 := e'.symm.trans E4.out; injection e6 with e6; injection e6 with e6; injection e6 with e6; subst e6; refine ⟨_, e', hp', ?_⟩; rw [set4 HX.out]; exact ⟨_, _, _, _, setRow_heap _ _ _ _ _ _ HX.out⟩)) | exact fun h => h
                  · refine StepOf.introL (i := 21) rfl (some 91) rfl [] [5] [0, 1, 2, 3, 4, 5, 6, 7, 8, 9, 10, 11, 12, 13, 14, 15, 16, 17, 18, 19, 20, 22, 23, 24, 25, 30] (by kernel_rfl) ?_
                    intro σ aa ww sS sF sU sA K hK
                    clear sF
                    have sl5 := AllSlots.cons_none sA (by kernel_rfl)
                    try simp only [List.getElem?_toArray, List.getElem?_cons_succ, List.getElem?_cons_zero] at sl5
                    replace sA := sA.2
                    clear sA
                    try (have SS := Lib.hid sS; have c16 : ww.cell? ⟨bk, o + q, none⟩ = some (.int .u8 (kn : Int)) := by { have := sS.1 q (by have := HQ9.out; omega); rw [this, HEE.out.1] })
                    try (obtain ⟨p, e4, hp, x0, x1, x2, x3, hx⟩ := f30; rw [e4] at sl9; have c0 := cell_row hx 0; have c1 := cell_row hx 1; have c2 := cell_row hx 2; have c3 := cell_row hx 3; have a0 := free_row hx 0; have a1 := free_row hx 1; have a2 := free_row hx 2; have a3 := free_row hx 3; have HX := Lib.hid hx; have E4 := Lib.hid e4; clear hx)
                    try go_simp
                    refine Shut.out hK _ _ ?_ ?_ ?_
                    · (try clear hK)
                      (try dsimp only)
                      first | (with_reducible exact SS.out) | (with_reducible exact hS8) | (with_reducible exact ⟨SS.out.1.below ((Below.refl _ _).alloc (Nat.le_refl _) _), SS.out.2.trans (Keep.of_below ((Below.refl _ _).alloc (Nat.le_refl _) _))⟩) | (rw [set4 HX.out]; exact ⟨rdb_row SS.out.1 (by omega), keep_row SS.out.2 hp⟩)
                    · (try clear hK)
                      simp only [nthF]
                      (try simp only [upd, if_true, if_false, Nat.reduceEqDiff, reduceIte])
                      first | done | trivial | rfl
                    · refine ⟨?_, ?_, ?_, ?_, ?_, ?_, ?_, ?_, ?_, ?_, ?_, ?_, ?_, ?_, ?_, ?_, ?_, ?_, ?_, ?_, ?_, ?_, ?_, ?_, ?_, ?_, trivial⟩
                      all_goals (try clear hK)
                      all_goals simp only [nthF]
                      all_goals (try simp only [upd, if_true, if_false, Nat.reduceEqDiff, reduceIte])
                      all_goals first | done | with_reducible exact fun h => h | exact (fun _ => trivial) | (intro hpr; first | (with_reducible exact hpr) | (obtain ⟨p', e', hp', z0, z1, z2, z3, hz⟩ := hpr; have e6 := e'.symm.trans E4.out; injection e6 with e6; injection e6 with e6; injection e6 with e6; subst e6; refine ⟨_, e', hp', ?_⟩; rw [set4 HX.out]; exact ⟨_, _, _, _, setRow_heap _ _ _ _ _ _ HX.out⟩)) | exact fun h => h
                  · refine StepOf.introL (i := 22) rfl (some 92) rfl [] [8] [0, 1, 2, 3, 4, 5, 6, 7, 8, 9, 10, 11, 12, 13, 14, 15, 16, 17, 18, 19, 20, 21, 24, 25, 30] (by kernel_rfl) ?_
                    intro σ aa ww sS sF sU sA K hK
                    clear sF
                    have sl8 := AllSlots.cons_none sA (by kernel_rfl)
                    try simp only [List.getElem?_toArray, List.getElem?_cons_succ, List.getElem?_cons_zero] at sl8
                    replace sA := sA.2
                    clear sA
                    try (have SS := Lib.hid sS; have c16 : ww.cell? ⟨bk, o + q, none⟩ = some (.int .u8 (kn : Int)) := by { have := sS.1 q (by have := HQ9.out; omega); rw [this, HEE.out.1] })
                    try (obtain ⟨p, e4, hp, x0, x1, x2, x3, hx⟩ := f30; rw [e4] at sl9; have c0 := cell_row hx 0; have c1 := cell_row hx 1; have c2 := cell_row hx 2; have c3 := cell_row hx 3; have a0 := free_row hx 0; have a1 := free_row hx 1; have a2 := free_row hx 2; have a3 := free_row hx 3; have HX := Lib.hid hx; have E4 := Lib.hid e4; clear hx)
                    try go_simp
                    refine Shut.out hK _ _ ?_ ?_ ?_
                    · (try clear hK)
                      (try dsimp only)
                      first | (with_reducible exact SS.out) | (with_reducible exact hS8) | (with_reducible exact ⟨SS.out.1.below ((Below.refl _ _).alloc (Nat.le_refl _) _), SS.out.2.trans (Keep.of_below ((Below.refl _ _).alloc (Nat.le_refl _) _))⟩) | (rw [set4 HX.out]; exact ⟨rdb_row SS.out.1 (by omega), keep_row SS.out.2 hp⟩)
                    · (try clear hK)
                      simp only [nthF]
                      (try simp only [upd, if_true, if_false, Nat.reduceEqDiff, reduceIte])
                      first | done | trivial | rfl
                    · refine ⟨?_, ?_, ?_, ?_, ?_, ?_, ?_, ?_, ?_, ?_, ?_, ?_, ?_, ?_, ?_, ?_, ?_, ?_, ?_, ?_, ?_, ?_, ?_, ?_, ?_, trivial⟩
                      all_goals (try clear hK)
                      all_goals simp only [nthF]
                      all_goals (try simp only [upd, if_true, if_false, Nat.reduceEqDiff, reduceIte])
                      all_goals first | done | with_reducible exact fun h => h | exact (fun _ => trivial) | (intro hpr; first | (with_reducible exact hpr) | (obtain ⟨p', e', hp', z0, z1, z2, z3, hz⟩ := hpr; have e6 := e'.symm.trans E4.out; injection e6 with e6; injection e6 with e6; injection e6 with e6; subst e6; refine ⟨_, e', hp', ?_⟩; rw [set4 HX.out]; exact ⟨_, _, _, _, setRow_heap _ _ _ _ _ _ HX.out⟩)) | exact fun h => h
                  · refine StepOf.introL (i := 23) rfl (some 93) rfl [22] [92] [0, 1, 2, 3, 4, 5, 6, 7, 8, 9, 10, 11, 12, 13, 14, 15, 16, 17, 18, 19, 20, 21, 22, 24, 25, 30] (by kernel_rfl) ?_
                    intro σ aa ww sS sF sU sA K hK
                    have f22 : (fun σ _ => σ 22 = .int .i64 (q : Int)) σ ww := sF.1; try dsimp only at f22
                    clear sF
                    have sl92 := AllSlots.cons_who (j := 22) sA (by kernel_rfl)
                    replace sA := sA.2
                    clear sA
                    try (have SS := Lib.hid sS; have c16 : ww.cell? ⟨bk, o + q, none⟩ = some (.int .u8 (kn : Int)) := by { have := sS.1 q (by have := HQ9.out; omega); rw [this, HEE.out.1] })
                    try (obtain ⟨p, e4, hp, x0, x1, x2, x3, hx⟩ := f30; rw [e4] at sl9; have c0 := cell_row hx 0; have c1 := cell_row hx 1; have c2 := cell_row hx 2; have c3 := cell_row hx 3; have a0 := free_row hx 0; have a1 := free_row hx 1; have a2 := free_row hx 2; have a3 := free_row hx 3; have HX := Lib.hid hx; have E4 := Lib.hid e4; clear hx)
                    try rw [f22] at sl92
                    try go_simp
                    refine Shut.out hK _ _ ?_ ?_ ?_
                    · (try clear hK)
                      (try dsimp only)
                      first | (with_reducible exact SS.out) | (with_reducible exact hS8) | (with_reducible exact ⟨SS.out.1.below ((Below.refl _ _).alloc (Nat.le_refl _) _), SS.out.2.trans (Keep.of_below ((Below.refl _ _).alloc (Nat.le_refl _) _))⟩) | (rw [set4 HX.out]; exact ⟨rdb_row SS.out.1 (by omega), keep_row SS.out.2 hp⟩)
                    · (try clear hK)
                      simp only [nthF]
                      (try simp only [upd, if_true, if_false, Nat.reduceEqDiff, reduceIte])
                      first | done | trivial | rfl
                    · refine ⟨?_, ?_, ?_, ?_, ?_, ?_, ?_, ?_, ?_, ?_, ?_, ?_, ?_, ?_, ?_, ?_, ?_, ?_, ?_, ?_, ?_, ?_, ?_, ?_, ?_, ?_, trivial⟩
                      all_goals (try clear hK)
                      all_goals simp only [nthF]
                      all_goals (try simp only [upd, if_true, if_false, Nat.reduceEqDiff, reduceIte])
                      all_goals first | done | with_reducible exact fun h => h | exact (fun _ => trivial) | (intro hpr; first | (with_reducible exact hpr) | (obtain ⟨p', e', hp', z0, z1, z2, z3, hz⟩ := hpr; have e6 := e'.symm.trans E4.out; injection e6 with e6; injection e6 with e6; injection e6 with e6; subst e6; refine ⟨_, e', hp', ?_⟩; rw [set4 HX.out]; exact ⟨_, _, _, _, setRow_heap _ _ _ _ _ _ HX.out⟩)) | exact fun h => h
                  · refine StepOf.introL (i := 24) rfl (some 94) rfl [] [8] [0, 1, 2, 3, 4, 5, 6, 7, 8, 9, 10, 11, 12, 13, 14, 15, 16, 17, 18, 19, 20, 21, 22, 23, 30] (by kernel_rfl) ?_
                    intro σ aa ww sS sF sU sA K hK
                    clear sF
                    have sl8 := AllSlots.cons_none sA (by kernel_rfl)
                    try simp only [List.getElem?_toArray, List.getElem?_cons_succ, List.getElem?_cons_zero] at sl8
                    replace sA := sA.2
                    clear sA
                    try (have SS := Lib.hid sS; have c16 : ww.cell? ⟨bk, o + q, none⟩ = some (.int .u8 (kn : Int)) := by { have := sS.1 q (by have := HQ9.out; omega); rw [this, HEE.out.1] })
                    try (obtain ⟨p, e4, hp, x0, x1, x2, x3, hx⟩ := f30; rw [e4] at sl9; have c0 := cell_row hx 0; have c1 := cell_row hx 1; have c2 := cell_row hx 2; have c3 := cell_row hx 3; have a0 := free_row hx 0; have a1 := free_row hx 1; have a2 := free_row hx 2; have a3 := free_row hx 3; have HX := Lib.hid hx; have E4 := Lib.hid e4; clear hx)
                    try go_simp
                    refine Shut.out hK _ _ ?_ ?_ ?_
                    · (try clear hK)
                      (try dsimp only)
                      first | (with_reducible exact SS.out) | (with_reducible exact hS8) | (with_reducible exact ⟨SS.out.1.below ((Below.refl _ _).alloc (Nat.le_refl _) _), SS.out.2.trans (Keep.of_below ((Below.refl _ _).alloc (Nat.le_refl _) _))⟩) | (rw [set4 HX.out]; exact ⟨rdb_row SS.out.1 (by omega), keep_row SS.out.2 hp⟩)
                    · (try clear hK)
                      simp only [nthF]
                      (try simp only [upd, if_true, if_false, Nat.reduceEqDiff, reduceIte])
                      first | done | trivial | rfl
                    · refine ⟨?_, ?_, ?_, ?_, ?_, ?_, ?_, ?_, ?_, ?_, ?_, ?_, ?_, ?_, ?_, ?_, ?_, ?_, ?_, ?_, ?_, ?_, ?_, ?_, ?_, trivial⟩
                      all_goals (try clear hK)
                      all_goals simp only [nthF]
                      all_goals (try simp only [upd, if_true, if_false, Nat.reduceEqDiff, reduceIte])
                      all_goals first | done | with_reducible exact fun h => h | exact (fun _ => trivial) | (intro hpr; first | (with_reducible exact hpr) | (obtain ⟨p', e', hp', z0, z1, z2, z3, hz⟩ := hpr; have e6 := e'.symm.trans E4.out; injection e6 with e6; injection e6 with e6; injection e6 with e6; subst e6; refine ⟨_, e', hp', ?_⟩; rw [set4 HX.out]; exact ⟨_, _, _, _, setRow_heap _ _ _ _ _ _ HX.out⟩)) | exact fun h => h
                  · refine StepOf.introL (i := 25) rfl (some 95) rfl [24] [94] [0, 1, 2, 3, 4, 5, 6, 7, 8, 9, 10, 11, 12, 13, 14, 15, 16, 17, 18, 19, 20, 21, 22, 23, 24, 30] (by kernel_rfl) ?_
                    intro σ aa ww sS sF sU sA K hK
                    have f24 : (fun σ _ => σ 24 = .int .i64 (q : Int)) σ ww := sF.1; try dsimp only at f24
                    clear sF
                    have sl94 := AllSlots.cons_who (j := 24) sA (by kernel_rfl)
                    replace sA := sA.2
                    clear sA
                    try (have SS := Lib.hid sS; have c16 : ww.cell? ⟨bk, o + q, none⟩ = some (.int .u8 (kn : Int)) := by { have := sS.1 q (by have := HQ9.out; omega); rw [this, HEE.out.1] })
                    try (obtain ⟨p, e4, hp, x0, x1, x2, x3, hx⟩ := f30; rw [e4] at sl9; have c0 := cell_row hx 0; have c1 := cell_row hx 1; have c2 := cell_row hx 2; have c3 := cell_row hx 3; have a0 := free_row hx 0; have a1 := free_row hx 1; have a2 := free_row hx 2; have a3 := free_row hx 3; have HX := Lib.hid hx; have E4 := Lib.hid e4; clear hx)
                    try rw [f24] at sl94
                    try go_simp
                    refine Shut.out hK _ _ ?_ ?_ ?_
                    · (try clear hK)
                      (try dsimp only)
                      first | (with_reducible exact SS.out) | (with_reducible exact hS8) | (with_reducible exact ⟨SS.out.1.below ((Below.refl _ _).alloc (Nat.le_refl _) _), SS.out.2.trans (Keep.of_below ((Below.refl _ _).alloc (Nat.le_refl _) _))⟩) | (rw [set4 HX.out]; exact ⟨rdb_row SS.out.1 (by omega), keep_row SS.out.2 hp⟩)
                    · (try clear hK)
                      simp only [nthF]
                      (try simp only [upd, if_true, if_false, Nat.reduceEqDiff, reduceIte])
                      first | done | trivial | rfl
                    · refine ⟨?_, ?_, ?_, ?_, ?_, ?_, ?_, ?_, ?_, ?_, ?_, ?_, ?_, ?_, ?_, ?_, ?_, ?_, ?_, ?_, ?_, ?_, ?_, ?_, ?_, ?_, trivial⟩
                      all_goals (try clear hK)
                      all_goals simp only [nthF]
                      all_goals (try simp only [upd, if_true, if_false, Nat.reduceEqDiff, reduceIte])
                      all_goals first | done | with_reducible exact fun h => h | exact (fun _ => trivial) | (intro hpr; first | (with_reducible exact hpr) | (obtain ⟨p', e', hp', z0, z1, z2, z3, hz⟩ := hpr; have e6 := e'.symm.trans E4.out; injection e6 with e6; injection e6 with e6; injection e6 with e6; subst e6; refine ⟨_, e', hp', ?_⟩; rw [set4 HX.out]; exact ⟨_, _, _, _, setRow_heap _ _ _ _ _ _ HX.out⟩)) | exact fun h => h
                  · refine StepOf.introL (i := 26) rfl (some 96) rfl [21, 23, 25, 24, 22] [91, 93, 95] [0, 1, 2, 3, 4, 5, 6, 7, 8, 9, 10, 11, 12, 13, 14, 15, 16, 17, 18, 19, 20, 21, 22, 23, 24, 25, 30] (by kernel_rfl) ?_
                    intro σ aa ww sS sF sU sA K hK
                    have f21 : (fun σ _ => σ 21 = .slice (some ⟨bk, o, none⟩) b.length cp) σ ww := sF.1; try dsimp only at f21
                    have f23 : (fun σ _ => σ 23 = .int .i64 ((q : Int) + 7)) σ ww := sF.2.1; try dsimp only at f23
                    have f25 : (fun σ _ => σ 25 = .int .i64 ((q : Int) + 9)) σ ww := sF.2.2.1; try dsimp only at f25
                    clear sF
                    have sl91 := AllSlots.cons_who (j := 21) sA (by kernel_rfl)
                    replace sA := sA.2
                    have sl93 := AllSlots.cons_who (j := 23) sA (by kernel_rfl)
                    replace sA := sA.2
                    have sl95 := AllSlots.cons_who (j := 25) sA (by kernel_rfl)
                    replace sA := sA.2
                    clear sA
                    try (have SS := Lib.hid sS; have c16 : ww.cell? ⟨bk, o + q, none⟩ = some (.int .u8 (kn : Int)) := by { have := sS.1 q (by have := HQ9.out; omega); rw [this, HEE.out.1] })
                    try (obtain ⟨p, e4, hp, x0, x1, x2, x3, hx⟩ := f30; rw [e4] at sl9; have c0 := cell_row hx 0; have c1 := cell_row hx 1; have c2 := cell_row hx 2; have c3 := cell_row hx 3; have a0 := free_row hx 0; have a1 := free_row hx 1; have a2 := free_row hx 2; have a3 := free_row hx 3; have HX := Lib.hid hx; have E4 := Lib.hid e4; clear hx)
                    try rw [f21] at sl91
                    try rw [f23] at sl93
                    try rw [f25] at sl95
                    try go_simp
                    refine Shut.out hK _ _ ?_ ?_ ?_
                    · (try clear hK)
                      (try dsimp only)
                      first | (with_reducible exact SS.out) | (with_reducible exact hS8) | (with_reducible exact ⟨SS.out.1.below ((Below.refl _ _).alloc (Nat.le_refl _) _), SS.out.2.trans (Keep.of_below ((Below.refl _ _).alloc (Nat.le_refl _) _))⟩) | (rw [set4 HX.out]; exact ⟨rdb_row SS.out.1 (by omega), keep_row SS.out.2 hp⟩)
                    · (try clear hK)
                      simp only [nthF]
                      (try simp only [upd, if_true, if_false, Nat.reduceEqDiff, reduceIte])
                      first | done | trivial | rfl
                    · refine ⟨?_, ?_, ?_, ?_, ?_, ?_, ?_, ?_, ?_, ?_, ?_, ?_, ?_, ?_, ?_, ?_, ?_, ?_, ?_, ?_, ?_, ?_, ?_, ?_, ?_, ?_, ?_, trivial⟩
                      all_goals (try clear hK)
                      all_goals simp only [nthF]
                      all_goals (try simp only [upd, if_true, if_false, Nat.reduceEqDiff, reduceIte])
                      all_goals first | done | with_reducible exact fun h => h | exact (fun _ => trivial) | (intro hpr; first | (with_reducible exact hpr) | (obtain ⟨p', e', hp', z0, z1, z2, z3, hz⟩ := hpr; have e6 := e'.symm.trans E4.out; injection e6 with e6; injection e6 with e6; injection e6 with e6; subst e6; refine ⟨_, e', hp', ?_⟩; rw [set4 HX.out]; exact ⟨_, _, _, _, setRow_heap _ _ _ _ _ _ HX.out⟩)) | exact fun h => h
                  · refine StepOf.introL (i := 27) rfl (some 97) rfl [26, 19, 21, 23, 25, 24, 22, 18, 11, 13, 15, 17, 16, 14, 10, 5, 7, 9, 8, 6] [96] [0, 1, 2, 3, 4, 5, 6, 7, 8, 9, 10, 11, 12, 13, 14, 15, 16, 17, 18, 19, 20, 21, 22, 23, 24, 25, 26, 30] (by kernel_rfl) ?_
                    intro σ aa ww sS sF sU sA K hK
                    have f26 : (fun σ _ => σ 26 = .slice (some ⟨bk, o + (q + 7), none⟩) 2 (cp - (q + 7))) σ ww := sF.1; try dsimp only at f26
                    clear sF
                    have sl96 := AllSlots.cons_who (j := 26) sA (by kernel_rfl)
                    replace sA := sA.2
                    clear sA
                    try (have SS := Lib.hid sS; have c16 : ww.cell? ⟨bk, o + q, none⟩ = some (.int .u8 (kn : Int)) := by { have := sS.1 q (by have := HQ9.out; omega); rw [this, HEE.out.1] })
                    try (obtain ⟨p, e4, hp, x0, x1, x2, x3, hx⟩ := f30; rw [e4] at sl9; have c0 := cell_row hx 0; have c1 := cell_row hx 1; have c2 := cell_row hx 2; have c3 := cell_row hx 3; have a0 := free_row hx 0; have a1 := free_row hx 1; have a2 := free_row hx 2; have a3 := free_row hx 3; have HX := Lib.hid hx; have E4 := Lib.hid e4; clear hx)
                    try rw [f26] at sl96
                    try go_simp
                    first | (go_at_call 60; with_reducible refine ((r1 _ SS.out.1).out).mono ?_; rintro e w2 ⟨rfl, rfl⟩) | (go_at_call 60; with_reducible refine ((r3 _ SS.out.1).out).mono ?_; rintro e w2 ⟨rfl, rfl⟩) | (go_at_call 60; with_reducible refine ((r7 _ SS.out.1).out).mono ?_; rintro e w2 ⟨rfl, rfl⟩)
                    refine Shut.out hK _ _ ?_ ?_ ?_
                    · (try clear hK)
                      (try dsimp only)
                      first | (with_reducible exact SS.out) | (with_reducible exact hS8) | (with_reducible exact ⟨SS.out.1.below ((Below.refl _ _).alloc (Nat.le_refl _) _), SS.out.2.trans (Keep.of_below ((Below.refl _ _).alloc (Nat.le_refl _) _))⟩) | (rw [set4 HX.out]; exact ⟨rdb_row SS.out.1 (by omega), keep_row SS.out.2 hp⟩)
                    · (try clear hK)
                      simp only [nthF]
                      (try simp only [upd, if_true, if_false, Nat.reduceEqDiff, reduceIte])
                      first | done | trivial | rfl
                    · refine ⟨?_, ?_, ?_, ?_, ?_, ?_, ?_, ?_, ?_, ?_, ?_, ?_, ?_, ?_, ?_, ?_, ?_, ?_, ?_, ?_, ?_, ?_, ?_, ?_, ?_, ?_, ?_, ?_, trivial⟩
                      all_goals (try clear hK)
                      all_goals simp only [nthF]
                      all_goals (try simp only [upd, if_true, if_false, Nat.reduceEqDiff, reduceIte])
                      all_goals first | done | with_reducible exact fun h => h | exact (fun _ => trivial) | (intro hpr; first | (with_reducible exact hpr) | (obtain ⟨p', e', hp', z0, z1, z2, z3, hz⟩ := hpr; have e6 := e'.symm.trans E4.out; injection e6 with e6; injection e6 with e6; injection e6 with e6; subst e6; refine ⟨_, e', hp', ?_⟩; rw [set4 HX.out]; exact ⟨_, _, _, _, setRow_heap _ _ _ _ _ _ HX.out⟩)) | exact fun h => h
                  · refine StepOf.introL (i := 28) rfl (some 98) rfl [27, 26, 19, 21, 23, 25, 24, 22, 18, 11, 13, 15, 17, 16, 14, 10, 5, 7, 9, 8, 6] [97] [0, 1, 2, 3, 4, 5, 6, 7, 8, 9, 10, 11, 12, 13, 14, 15, 16, 17, 18, 19, 20, 21, 22, 23, 24, 25, 26, 27, 30] (by kernel_rfl) ?_
                    intro σ aa ww sS sF sU sA K hK
                    have f27 : (fun σ _ => σ 27 = .int .u64 (ei : Int)) σ ww := sF.1; try dsimp only at f27
                    clear sF
                    have sl97 := AllSlots.cons_who (j := 27) sA (by kernel_rfl)
                    replace sA := sA.2
                    clear sA
                    try (have SS := Lib.hid sS; have c16 : ww.cell? ⟨bk, o + q, none⟩ = some (.int .u8 (kn : Int)) := by { have := sS.1 q (by have := HQ9.out; omega); rw [this, HEE.out.1] })
                    try (obtain ⟨p, e4, hp, x0, x1, x2, x3, hx⟩ := f30; rw [e4] at sl9; have c0 := cell_row hx 0; have c1 := cell_row hx 1; have c2 := cell_row hx 2; have c3 := cell_row hx 3; have a0 := free_row hx 0; have a1 := free_row hx 1; have a2 := free_row hx 2; have a3 := free_row hx 3; have HX := Lib.hid hx; have E4 := Lib.hid e4; clear hx)
                    try rw [f27] at sl97
                    try go_simp
                    refine Shut.out hK _ _ ?_ ?_ ?_
                    · (try clear hK)
                      (try dsimp only)
                      first | (with_reducible exact SS.out) | (with_reducible exact hS8) | (with_reducible exact ⟨SS.out.1.below ((Below.refl _ _).alloc (Nat.le_refl _) _), SS.out.2.trans (Keep.of_below ((Below.refl _ _).alloc (Nat.le_refl _) _))⟩) | (rw [set4 HX.out]; exact ⟨rdb_row SS.out.1 (by omega), keep_row SS.out.2 hp⟩)
                    · (try clear hK)
                      simp only [nthF]
                      (try simp only [upd, if_true, if_false, Nat.reduceEqDiff, reduceIte])
                      first | done | trivial | rfl
                    · refine ⟨?_, ?_, ?_, ?_, ?_, ?_, ?_, ?_, ?_, ?_, ?_, ?_, ?_, ?_, ?_, ?_, ?_, ?_, ?_, ?_, ?_, ?_, ?_, ?_, ?_, ?_, ?_, ?_, ?_, trivial⟩
                      all_goals (try clear hK)
                      all_goals simp only [nthF]
                      all_goals (try simp only [upd, if_true, if_false, Nat.reduceEqDiff, reduceIte])
                      all_goals first | done | with_reducible exact fun h => h | exact (fun _ => trivial) | (intro hpr; first | (with_reducible exact hpr) | (obtain ⟨p', e', hp', z0, z1, z2, z3, hz⟩ := hpr; have e6 := e'.symm.trans E4.out; injection e6 with e6; injection e6 with e6; injection e6 with e6; subst e6; refine ⟨_, e', hp', ?_⟩; rw [set4 HX.out]; exact ⟨_, _, _, _, setRow_heap _ _ _ _ _ _ HX.out⟩)) | exact fun h => h
                  · refine StepOf.introL (i := 29) rfl (some 99) rfl [4, 12, 20, 28, 27, 26, 19, 21, 23, 25, 24, 22, 18, 11, 13, 15, 17, 16, 14, 10, 5, 7, 9, 8, 6, 3, 2, 0, 1] [74, 82, 90, 98] [0, 1, 2, 3, 4, 5, 6, 7, 8, 9, 10, 11, 12, 13, 14, 15, 16, 17, 18, 19, 20, 21, 22, 23, 24, 25, 26, 27, 28, 30] (by kernel_rfl) ?_
                    intro σ aa ww sS sF sU sA K hK
                    have f4 : (fun σ _ => σ 4 = .int .i64 (kn : Int)) σ ww := sF.1; try dsimp only at f4
                    have f12 : (fun σ _ => σ 12 = .int .u32 (en : Int)) σ ww := sF.2.1; try dsimp only at f12
                    have f20 : (fun σ _ => σ 20 = .int .u32 (ev : Int)) σ ww := sF.2.2.1; try dsimp only at f20
                    have f28 : (fun σ _ => σ 28 = .int .i64 (ei : Int)) σ ww := sF.2.2.2.1; try dsimp only at f28
                    clear sF
                    have sl74 := AllSlots.cons_who (j := 4) sA (by kernel_rfl)
                    replace sA := sA.2
                    have sl82 := AllSlots.cons_who (j := 12) sA (by kernel_rfl)
                    replace sA := sA.2
                    have sl90 := AllSlots.cons_who (j := 20) sA (by kernel_rfl)
                    replace sA := sA.2
                    have sl98 := AllSlots.cons_who (j := 28) sA (by kernel_rfl)
                    replace sA := sA.2
                    clear sA
                    try (have SS := Lib.hid sS; have c16 : ww.cell? ⟨bk, o + q, none⟩ = some (.int .u8 (kn : Int)) := by { have := sS.1 q (by have := HQ9.out; omega); rw [this, HEE.out.1] })
                    try (obtain ⟨p, e4, hp, x0, x1, x2, x3, hx⟩ := f30; rw [e4] at sl9; have c0 := cell_row hx 0; have c1 := cell_row hx 1; have c2 := cell_row hx 2; have c3 := cell_row hx 3; have a0 := free_row hx 0; have a1 := free_row hx 1; have a2 := free_row hx 2; have a3 := free_row hx 3; have HX := Lib.hid hx; have E4 := Lib.hid e4; clear hx)
                    try rw [f4] at sl74
                    try rw [f12] at sl82
                    try rw [f20] at sl90
                    try rw [f28] at sl98
                    try go_simp
                    refine Shut.out hK _ _ ?_ ?_ ?_
                    · (try clear hK)
                      (try dsimp only)
                      first | (with_reducible exact SS.out) | (with_reducible exact hS8) | (with_reducible exact ⟨SS.out.1.below ((Below.refl _ _).alloc (Nat.le_refl _) _), SS.out.2.trans (Keep.of_below ((Below.refl _ _).alloc (Nat.le_refl _) _))⟩) | (rw [set4 HX.out]; exact ⟨rdb_row SS.out.1 (by omega), keep_row SS.out.2 hp⟩)
                    · (try clear hK)
                      simp only [nthF]
                      (try simp only [upd, if_true, if_false, Nat.reduceEqDiff, reduceIte])
                      first | done | trivial | rfl
                    · refine ⟨?_, ?_, ?_, ?_, ?_, ?_, ?_, ?_, ?_, ?_, ?_, ?_, ?_, ?_, ?_, ?_, ?_, ?_, ?_, ?_, ?_, ?_, ?_, ?_, ?_, ?_, ?_, ?_, ?_, ?_, trivial⟩
                      all_goals (try clear hK)
                      all_goals simp only [nthF]
                      all_goals (try simp only [upd, if_true, if_false, Nat.reduceEqDiff, reduceIte])
                      all_goals first | done | with_reducible exact fun h => h | exact (fun _ => trivial) | (intro hpr; first | (with_reducible exact hpr) | (obtain ⟨p', e', hp', z0, z1, z2, z3, hz⟩ := hpr; have e6 := e'.symm.trans E4.out; injection e6 with e6; injection e6 with e6; injection e6 with e6; subst e6; refine ⟨_, e', hp', ?_⟩; rw [set4 HX.out]; exact ⟨_, _, _, _, setRow_heap _ _ _ _ _ _ HX.out⟩)) | exact fun h => h
                  · refine StepOf.introL (i := 30) rfl (some 9) rfl [] [] [0, 1, 2, 3, 4, 5, 6, 7, 8, 9, 10, 11, 12, 13, 14, 15, 16, 17, 18, 19, 20, 21, 22, 23, 24, 25, 26, 27, 28, 29] (by kernel_rfl) ?_
                    intro σ aa ww sS sF sU sA K hK
                    clear sF
                    clear sA
                    try (have SS := Lib.hid sS; have c16 : ww.cell? ⟨bk, o + q, none⟩ = some (.int .u8 (kn : Int)) := by { have := sS.1 q (by have := HQ9.out; omega); rw [this, HEE.out.1] })
                    try (obtain ⟨p, e4, hp, x0, x1, x2, x3, hx⟩ := f30; rw [e4] at sl9; have c0 := cell_row hx 0; have c1 := cell_row hx 1; have c2 := cell_row hx 2; have c3 := cell_row hx 3; have a0 := free_row hx 0; have a1 := free_row hx 1; have a2 := free_row hx 2; have a3 := free_row hx 3; have HX := Lib.hid hx; have E4 := Lib.hid e4; clear hx)
                    try go_simp
                    refine Shut.out hK _ _ ?_ ?_ ?_
                    · (try clear hK)
                      (try dsimp only)
                      first | (with_reducible exact SS.out) | (with_reducible exact hS8) | (with_reducible exact ⟨SS.out.1.below ((Below.refl _ _).alloc (Nat.le_refl _) _), SS.out.2.trans (Keep.of_below ((Below.refl _ _).alloc (Nat.le_refl _) _))⟩) | (rw [set4 HX.out]; exact ⟨rdb_row SS.out.1 (by omega), keep_row SS.out.2 hp⟩)
                    · (try clear hK)
                      simp only [nthF]
                      (try simp only [upd, if_true, if_false, Nat.reduceEqDiff, reduceIte])
                      first | done | trivial | rfl | (exact ⟨_, rfl, SS.out.2.size, _, _, _, _, heap_alloc_last _ _⟩)
                    · refine ⟨?_, ?_, ?_, ?_, ?_, ?_, ?_, ?_, ?_, ?_, ?_, ?_, ?_, ?_, ?_, ?_, ?_, ?_, ?_, ?_, ?_, ?_, ?_, ?_, ?_, ?_, ?_, ?_, ?_, ?_, trivial⟩
                      all_goals (try clear hK)
                      all_goals simp only [nthF]
                      all_goals (try simp only [upd, if_true, if_false, Nat.reduceEqDiff, reduceIte])
                      all_goals first | done | with_reducible exact fun h => h | exact (fun _ => trivial) | exact fun h => h
                  · refine StepOf.introL (i := 31) rfl none rfl [30, 29, 27, 0, 1, 2, 3, 4, 5, 6, 7, 8, 9, 10, 11, 12, 13, 14, 15, 16, 17, 18, 19, 20, 21, 22, 23, 24, 25, 26, 28] [9, 99] [0, 1, 2, 3, 4, 5, 6, 7, 8, 9, 10, 11, 12, 13, 14, 15, 16, 17, 18, 19, 20, 21, 22, 23, 24, 25, 26, 27, 28, 29, 30] (by kernel_rfl) ?_
                    intro σ aa ww sS sF sU sA K hK
                    have f30 : (fun σ w' => ∃ p, σ 30 = .pointer (some ⟨p, 0, none⟩) ∧ wr.heap.size ≤ p ∧ ∃ x0 x1 x2 x3, w'.heap[p]? = some (.cells #[x0, x1, x2, x3] 162 (0, 0))) σ ww := sF.1; try dsimp only at f30
                    have f29 : (fun σ _ => σ 29 = .agg #[.int .i64 (kn : Int), .int .u32 (en : Int), .int .u32 (ev : Int), .int .i64 (ei : Int)]) σ ww := sF.2.1; try dsimp only at f29
                    clear sF
                    have sl9 := AllSlots.cons_who (j := 30) sA (by kernel_rfl)
                    replace sA := sA.2
                    have sl99 := AllSlots.cons_who (j := 29) sA (by kernel_rfl)
                    replace sA := sA.2
                    clear sA
                    try (have SS := Lib.hid sS; have c16 : ww.cell? ⟨bk, o + q, none⟩ = some (.int .u8 (kn : Int)) := by { have := sS.1 q (by have := HQ9.out; omega); rw [this, HEE.out.1] })
                    try (obtain ⟨p, e4, hp, x0, x1, x2, x3, hx⟩ := f30; rw [e4] at sl9; have c0 := cell_row hx 0; have c1 := cell_row hx 1; have c2 := cell_row hx 2; have c3 := cell_row hx 3; have a0 := free_row hx 0; have a1 := free_row hx 1; have a2 := free_row hx 2; have a3 := free_row hx 3; have HX := Lib.hid hx; have E4 := Lib.hid e4; clear hx)
                    try rw [f30] at sl9
                    try rw [f29] at sl99
                    try go_simp
                    refine Shut.out hK undef _ ?_ ?_ ?_
                    · (try clear hK)
                      (try dsimp only)
                      first | (with_reducible exact SS.out) | (with_reducible exact hS8) | (with_reducible exact ⟨SS.out.1.below ((Below.refl _ _).alloc (Nat.le_refl _) _), SS.out.2.trans (Keep.of_below ((Below.refl _ _).alloc (Nat.le_refl _) _))⟩) | (rw [set4 HX.out]; exact ⟨rdb_row SS.out.1 (by omega), keep_row SS.out.2 hp⟩)
                    · (try clear hK)
                      simp only [nthF]
                      (try simp only [upd, if_true, if_false, Nat.reduceEqDiff, reduceIte])
                      first | done | trivial | rfl | (refine ⟨p, E4.out, hp, ?_⟩; rw [set4 HX.out]; exact setRow_heap _ _ _ _ _ _ HX.out)
                    · refine ⟨?_, ?_, ?_, ?_, ?_, ?_, ?_, ?_, ?_, ?_, ?_, ?_, ?_, ?_, ?_, ?_, ?_, ?_, ?_, ?_, ?_, ?_, ?_, ?_, ?_, ?_, ?_, ?_, ?_, ?_, ?_, trivial⟩
                      all_goals (try clear hK)
                      all_goals simp only [nthF]
                      all_goals (try simp only [upd, if_true, if_false, Nat.reduceEqDiff, reduceIte])
                      all_goals first | done | with_reducible exact fun h => h | exact (fun _ => trivial) | (intro hpr; first | (with_reducible exact hpr) | (obtain ⟨p', e', hp', z0, z1, z2, z3, hz⟩ := hpr; have e6 := e'.symm.trans E4.out; injection e6 with e6; injection e6 with e6; injection e6 with e6; subst e6; refine ⟨_, e', hp', ?_⟩; rw [set4 HX.out]; exact ⟨_, _, _, _, setRow_heap _ _ _ _ _ _ HX.out⟩)) | exact fun h => h
                intro σ wE hE fE
                have f31 : (fun σ w' => ∃ p, σ 30 = .pointer (some ⟨p, 0, none⟩) ∧ wr.heap.size ≤ p ∧ w'.heap[p]? = some (.cells #[.int .i64 (kn : Int), .int .u32 (en : Int), .int .u32 (ev : Int), .int .i64 (ei : Int)] 162 (0, 0))) σ wE := fE.2
                replace fE := fE.1
                try dsimp only at f31
                have f30 : (fun σ w' => ∃ p, σ 30 = .pointer (some ⟨p, 0, none⟩) ∧ wr.heap.size ≤ p ∧ ∃ x0 x1 x2 x3, w'.heap[p]? = some (.cells #[x0, x1, x2, x3] 162 (0, 0))) σ wE := fE.2
                replace fE := fE.1
                try dsimp only at f30
                have f29 : (fun σ _ => σ 29 = .agg #[.int .i64 (kn : Int), .int .u32 (en : Int), .int .u32 (ev : Int), .int .i64 (ei : Int)]) σ wE := fE.2
                replace fE := fE.1
                try dsimp only at f29
                have f28 : (fun σ _ => σ 28 = .int .i64 (ei : Int)) σ wE := fE.2
                replace fE := fE.1
                try dsimp only at f28
                have f27 : (fun σ _ => σ 27 = .int .u64 (ei : Int)) σ wE := fE.2
                replace fE := fE.1
                try dsimp only at f27
                have f26 : (fun σ _ => σ 26 = .slice (some ⟨bk, o + (q + 7), none⟩) 2 (cp - (q + 7))) σ wE := fE.2
                replace fE := fE.1
                try dsimp only at f26
                have f25 : (fun σ _ => σ 25 = .int .i64 ((q : Int) + 9)) σ wE := fE.2
                replace fE := fE.1
                try dsimp only at f25
                have f24 : (fun σ _ => σ 24 = .int .i64 (q : Int)) σ wE := fE.2
                replace fE := fE.1
                try dsimp only at f24
                have f23 : (fun σ _ => σ 23 = .int .i64 ((q : Int) + 7)) σ wE := fE.2
                replace fE := fE.1
                try dsimp only at f23
                have f22 : (fun σ _ => σ 22 = .int .i64 (q : Int)) σ wE := fE.2
                replace fE := fE.1
                try dsimp only at f22
                have f21 : (fun σ _ => σ 21 = .slice (some ⟨bk, o, none⟩) b.length cp) σ wE := fE.2
                replace fE := fE.1
                try dsimp only at f21
                have f20 : (fun σ _ => σ 20 = .int .u32 (ev : Int)) σ wE := fE.2
                replace fE := fE.1
                try dsimp only at f20
                have f19 : (fun σ _ => σ 19 = .int .u64 (ev : Int)) σ wE := fE.2
                replace fE := fE.1
                try dsimp only at f19
                have f18 : (fun σ _ => σ 18 = .slice (some ⟨bk, o + (q + 3), none⟩) 4 (cp - (q + 3))) σ wE := fE.2
                replace fE := fE.1
                try dsimp only at f18
                have f17 : (fun σ _ => σ 17 = .int .i64 ((q : Int) + 7)) σ wE := fE.2
                replace fE := fE.1
                try dsimp only at f17
                have f16 : (fun σ _ => σ 16 = .int .i64 (q : Int)) σ wE := fE.2
                replace fE := fE.1
                try dsimp only at f16
                have f15 : (fun σ _ => σ 15 = .int .i64 ((q : Int) + 3)) σ wE := fE.2
                replace fE := fE.1
                try dsimp only at f15
                have f14 : (fun σ _ => σ 14 = .int .i64 (q : Int)) σ wE := fE.2
                replace fE := fE.1
                try dsimp only at f14
                have f13 : (fun σ _ => σ 13 = .slice (some ⟨bk, o, none⟩) b.length cp) σ wE := fE.2
                replace fE := fE.1
                try dsimp only at f13
                have f12 : (fun σ _ => σ 12 = .int .u32 (en : Int)) σ wE := fE.2
                replace fE := fE.1
                try dsimp only at f12
                have f11 : (fun σ _ => σ 11 = .int .u64 (en : Int)) σ wE := fE.2
                replace fE := fE.1
                try dsimp only at f11
                have f10 : (fun σ _ => σ 10 = .slice (some ⟨bk, o + (q + 1), none⟩) 2 (cp - (q + 1))) σ wE := fE.2
                replace fE := fE.1
                try dsimp only at f10
                have f9 : (fun σ _ => σ 9 = .int .i64 ((q : Int) + 3)) σ wE := fE.2
                replace fE := fE.1
                try dsimp only at f9
                have f8 : (fun σ _ => σ 8 = .int .i64 (q : Int)) σ wE := fE.2
                replace fE := fE.1
                try dsimp only at f8
                have f7 : (fun σ _ => σ 7 = .int .i64 ((q : Int) + 1)) σ wE := fE.2
                replace fE := fE.1
                try dsimp only at f7
                have f6 : (fun σ _ => σ 6 = .int .i64 (q : Int)) σ wE := fE.2
                replace fE := fE.1
                try dsimp only at f6
                have f5 : (fun σ _ => σ 5 = .slice (some ⟨bk, o, none⟩) b.length cp) σ wE := fE.2
                replace fE := fE.1
                try dsimp only at f5
                have f4 : (fun σ _ => σ 4 = .int .i64 (kn : Int)) σ wE := fE.2
                replace fE := fE.1
                try dsimp only at f4
                have f3 : (fun σ _ => σ 3 = .int .u8 (kn : Int)) σ wE := fE.2
                replace fE := fE.1
                try dsimp only at f3
                have f2 : (fun σ _ => σ 2 = .pointer (some ⟨bk, o + q, none⟩)) σ wE := fE.2
                replace fE := fE.1
                try dsimp only at f2
                have f1 : (fun σ _ => σ 1 = .int .i64 (q : Int)) σ wE := fE.2
                replace fE := fE.1
                try dsimp only at f1
                have f0 : (fun σ _ => σ 0 = .slice (some ⟨bk, o, none⟩) b.length cp) σ wE := fE.2
                replace fE := fE.1
                try dsimp only at f0
                clear fE
                simp only [fillAll, List.getElem?_toArray, List.getElem?_cons_succ, List.getElem?_cons_zero, Option.bind_some, List.setIfInBounds_toArray, List.set_cons_zero, List.set_cons_succ]
                obtain ⟨pe, e30, hpe, hXe⟩ := f31
                have hKE := hE.2
                rw [e30]
                clear f0 f1 f2 f3 f4 f5 f6 f7 f8 f9 f10 f11 f12 f13 f14 f15 f16 f17 f18 f19 f20 f21 f22 f23 f24 f25 f26 f27 f28 f29 f30 hE e30 hS8 r1 r3 r7 v0 v1 v2 v3 u1 u3 u7 t3 t7 t9 p1 p3 p7' m1 m3 m7 i1 i3 i7 i9 i97 j1 j3 j7 k1 k3 k7 y1 y3 y7
                obtain ⟨wL, rfl⟩ : ∃ wL : World, wL = wE := ⟨_, rfl⟩
                have hBL : Below wr.heap.size wr wL := hKE.below (fun _ h => h.elim) (Nat.le_refl _)
                have hXL := old_heap HX.out hBL
                have hOL := own_below HO.out hBL
                have hTL := old_heap HTr.out hBL
                have hKL := HKP.out.trans' hKE (fun _ _ h => h.elim)
                have hzL := hBL.size
                have d0 : wL.cell? ⟨pe, 0, none⟩ = some (.int .i64 (kn : Int)) := cell_row hXe 0
                have d1 : wL.cell? ⟨pe, 1, none⟩ = some (.int .u32 (en : Int)) := cell_row hXe 1
                have d2 : wL.cell? ⟨pe, 2, none⟩ = some (.int .u32 (ev : Int)) := cell_row hXe 2
                have d3 : wL.cell? ⟨pe, 3, none⟩ = some (.int .i64 (ei : Int)) := cell_row hXe 3
                have hent : rentry b q = ⟨(kn : Int), en, ev, (ei : Int)⟩ := by
                  unfold rentry
                  rw [getD_part b q (by have := HQ9.out; omega), HEE.out.1]
                  rw [show rN b (q + 1) 2 = en from HEE.out.2.1, show rN b ((q + 1) + 2) 4 = ev from HEE.out.2.2.1, show rN b (((q + 1) + 2) + 4) 2 = ei from HEE.out.2.2.2]
                have HENT := Lib.hid hent
                have HXL := Lib.hid hXL
                have HOL := Lib.hid hOL
                have HTL := Lib.hid hTL
                have HKL := Lib.hid hKL
                have HKJ := Lib.hid (show k < J from by have := HQ.out; have := HLEN.out; have := HQ9.out; omega)
                clear hXe hKE hBL hXL hOL hTL hKL hent HX HO HTr HKP HRW
                by_cases hkd : 1 ≤ kn ∧ kn ≤ 6
                rotate_left
                · have HNO : Hid (sumRefOk l = false) := Lib.hid (by
                    have h1 : (entrys b 24 J).all entryMay = false := by
                      rw [List.all_eq_false]
                      refine ⟨rentry b (24 + k * 9), List.mem_map.2 ⟨k, List.mem_range.2 HKJ.out, rfl⟩, ?_⟩
                      rw [show 24 + k * 9 = q by have := HQ.out; omega, HENT.out]
                      unfold entryMay
                      simp
                      omega
                    rw [HOKD.out, HJ.out, h1]; simp)
                  have HBL5 := Lib.hid ((HB4.out.trans (HBE4.out.mono (by have := HZ4.out; omega))).trans (HKL.out.below (B := w.heap.size) (fun j h => by subst h; have := HZ4.out; omega) (by have := HZ4.out; have := HBE4.out.size; omega)))
                  have hcut : ∀ G : Prop, ((kn : Int) < 1 → G) → (¬ (kn : Int) < 1 → 6 < (kn : Int) → G) → G := fun G a1 a2 => by
                    by_cases h1 : (kn : Int) < 1
                    · exact a1 h1
                    · exact a2 h1 (by omega)
                  clear hkd
                  refine hcut _ ?_ ?_ <;> clear hcut <;> intros
                  all_goals
                    go_wp2_with (first
                      | (refine wpList_build_at rfl 101 _ rfl [] (by simp) #[.int .u64 0, .int .u64 0, .bool false, .int .i64 0, .int .u32 0, .slice none 0 0] built_rsum ?_)
                      | (refine wpList_store_row rfl 101 (.tmp 2) (.tmp 108) rfl (w.heap.size + 1) #[.int .u64 0, .int .u64 0, .bool false, .int .i64 0, .int .u32 0, .slice none 0 0] #[.int .u64 0, .int .u64 0, .bool false, .int .i64 0, .int .u32 0, .slice none 0 0] 101 rfl rfl HTL.out infoRSum rfl (by simp [Value.oneCell']) ?_))
                    have hld := run_loadVar_row (P := Try.prog) (wL.setRow (w.heap.size + 1) #[.int .u64 0, .int .u64 0, .bool false, .int .i64 0, .int .u32 0, .slice none 0 0]) (w.heap.size + 1) 101 101 #[.int .u64 0, .int .u64 0, .bool false, .int .i64 0, .int .u32 0, .slice none 0 0] (0, 0) _ (setRow_heap _ _ _ _ _ _ HTL.out) Try.underlying101 (by simp) infoRSum
                    exact bodyPost_ret (v := .tuple #[.agg #[.int .u64 0, .int .u64 0, .bool false, .int .i64 0, .int .u32 0, .slice none 0 0], .bool false]) (results_cell2 Try.results44 rfl rfl hld) rfl (rrSum_no HNO.out rfl (below_row HBL5.out (by omega)))
                · have g0 : ¬ (kn : Int) < 1 := by omega
                  have g1 : ¬ 6 < (kn : Int) := by omega
                  have d5 : wL.cell? ⟨p7, 5, none⟩ = some (.slice so k co) := cell_row HXL.out 5
                  have hbb : Below wL.heap.size wL (wL.alloc (.cells #[.int .i64 (kn : Int), .int .u32 (en : Int), .int .u32 (ev : Int), .int .i64 (ei : Int)] 162 (0, 0))) := (Below.refl _ _).alloc (Nat.le_refl _) _
                  have hrd := rd_row (cs := [.int .i64 (kn : Int), .int .u32 (en : Int), .int .u32 (ev : Int), .int .i64 (ei : Int)]) (heap_alloc_last wL (.cells (([.int .i64 (kn : Int), .int .u32 (en : Int), .int .u32 (ev : Int), .int .i64 (ei : Int)] : List Value)).toArray 162 (0, 0))) rfl 1
                  have HRD1 := Lib.hid hrd
                  have HOA := Lib.hid (own_below HOL.out hbb)
                  have HKA := Lib.hid (HKL.out.trans' (Keep.of_below hbb) (F := (· = p7)) (G := fun _ => False) (fun _ _ h => h.elim))
                  have HXA := Lib.hid (old_heap HXL.out hbb)
                  have HZA : Hid (wI.heap.size ≤ (wL.alloc (.cells #[.int .i64 (kn : Int), .int .u32 (en : Int), .int .u32 (ev : Int), .int .i64 (ei : Int)] 162 (0, 0))).heap.size) := Lib.hid (by rw [World.size_alloc]; have := HWZ.out; omega)
                  have HKS := Lib.hid (show 24 + 9 * k = q ∧ q + 9 ≤ 255 from ⟨HQ.out, by have := HQ9.out; have := HB256.out; omega⟩)
                  clear hbb hrd hkd
                  go_wp2_with (at_builtin; go_must (refine wpList_append_rd _ rfl (.tmp 110) (.tmp 112) 99 rfl wI.heap.size 162 (.agg #[.int .i64 0, .int .u32 0, .int .u32 0, .int .i64 0]) 4 24 Try.underlying99 infoREntry3 rfl (by decide) _ _ _ rfl HOA.out _ 1 [.int .i64 (kn : Int), .int .u32 (en : Int), .int .u32 (ev : Int), .int .i64 (ei : Int)] rfl HRD1.out ?c1 ?c2 (by decide) HZA.out ?_; (case c1 => intro u hu; simp only [List.mem_cons, List.not_mem_nil, or_false] at hu; rcases hu with rfl | rfl | rfl | rfl <;> rfl); (case c2 => have := HKS.out; omega); intro v5 w5 hown5 hbel5 hg5; obtain ⟨s5, c5, rfl⟩ := own_slice1 hown5; have HO5 := Lib.hid hown5; have HK5 := Lib.hid (keep_grow HKA.out hbel5); have hh5 := (hbel5.block p7 hp7l).trans HXA.out; have HH5 := Lib.hid hh5; have q5 : w5.cell? ⟨p7, 5, none⟩ = some (.slice so k co) := cell_row hh5 5; have r5 := free_row hh5 5; clear hown5 hbel5 hg5 hh5))
                  have HX6 : Hid ((w5.setCell ⟨p7, 5, none⟩ (.slice s5 (k + 1) c5)).heap[p7]? = some (.cells #[.int .u64 (n0 : Int), .int .u64 (n1 : Int), .bool ((n2 : Int) == 1), .int .i64 (n3 : Int), .int .u32 (n4 : Int), .slice s5 (k + 1) c5] 101 (0, 0))) := Lib.hid (by have := head_set HH5.out 5 (.slice s5 (k + 1) c5); simpa using this)
                  have HO6 : Hid ((w5.setCell ⟨p7, 5, none⟩ (.slice s5 (k + 1) c5)).ownsRow wI.heap.size 162 4 (.slice s5 (k + 1) c5) (k + 1) (rowsOf Ent5.cells (entrys b 24 (k + 1)))) := Lib.hid (by
                    rw [entrys_snoc, rowsOf_snoc, show 24 + k * 9 = q by have := HKS.out; omega, HENT.out]
                    exact own_move HO5.out (fun j hj => Below.heap_setCell _ _ _ _ (by have := (HO5.out.lt j hj).1; show j ≠ p7; omega)))
                  have HK6 := Lib.hid (HK5.out.setCell p7 5 (.slice s5 (k + 1) c5) rfl)
                  have HA6 : Hid ((entrys b 24 (k + 1)).all entryMay = true) := Lib.hid (by
                    rw [entrys_snoc, List.all_append, HK.out, show 24 + k * 9 = q by have := HKS.out; omega, HENT.out]
                    unfold entryMay
                    simp
                    omega)
                  have HQ9' := HQ9.out
                  clear HO5 HK5 HH5 HK HXL HOL HKL HTL HOA HKA HXA HRD1
                  go_roundw
                  case rel => exact ⟨k + 1, _, by have := HKJ.out; omega, by have := HKS.out; simp only [Value.int.injEq, true_and]; omega, HA6, HX6, HO6, HK6⟩
                  case measure => simp [intOf]; omega
              · obtain rfl : k = J := by omega
                have hge : ¬ (q : Int) < (b.length : Int) := by omega
                have HYES : Hid (sumRefOk l = decide ((k : Int) ≤ 8)) := Lib.hid (by
                  rw [HOKD.out, decide_eq_true (show sumOk4 b from ⟨HWJ.out.1, by rw [HN2.out]; exact HWJ.out.2.1, by rw [HJ.out]; exact HLEN.out⟩), HJ.out, HK.out]
                  simp
                  omega)
                have HBR := Lib.hid ((HB4.out.trans (HBE4.out.mono (by have := HZ4.out; omega))).trans (HKP.out.below (B := w.heap.size) (fun j h => by subst h; have := HZ4.out; omega) (by have := HZ4.out; have := HBE4.out.size; omega)))
                have hS12 : Keep (· = w.heap.size + 1) wr wr.drew ∧ ∃ a0 a1 a2 a3 a4 a5, wr.drew.heap[w.heap.size + 1]? = some (.cells #[a0, a1, a2, a3, a4, a5] 101 (0, 0)) := ⟨(Keep.refl _ _).drew, _, _, _, _, _, _, HTr.out⟩
                have hpne : p7 ≠ w.heap.size + 1 := by have := HZ4.out; omega
                go_upto_region 12 with fail
                refine wp_region_inv_lit (S := (fun w' => Keep (· = w.heap.size + 1) wr w' ∧ ∃ a0 a1 a2 a3 a4 a5, w'.heap[w.heap.size + 1]? = some (.cells #[a0, a1, a2, a3, a4, a5] 101 (0, 0)))) (nthF [(fun σ _ => σ 0 = .agg #[.int .u64 (n0 : Int), .int .u64 (n1 : Int), .bool ((n2 : Int) == 1), .int .i64 (n3 : Int), .int .u32 (n4 : Int), .slice so k co]), (fun σ _ => σ 1 = .pointer (some ⟨p7, 5, none⟩)), (fun σ _ => σ 2 = .slice so k co), (fun σ _ => σ 3 = .int .i64 (k : Int)), (fun σ _ => σ 4 = .bool (decide ((k : Int) ≤ 8))), (fun σ w' => ∃ p, p = w.heap.size + 1 ∧ w'.heap[p]? = some (.cells #[.int .u64 (n0 : Int), .int .u64 (n1 : Int), .bool ((n2 : Int) == 1), .int .i64 (n3 : Int), .int .u32 (n4 : Int), .slice so k co] 101 (0, 0))), (fun σ _ => σ 6 = .bool (decide ((k : Int) ≤ 8)))]) 120 7 (by kernel_rfl) (by rfl) (by rfl) (by kernel_rfl) ?_ ?_ ?_
                · (try dsimp only)
                  first | (with_reducible exact SS.out) | (with_reducible exact hS12) | (rw [set6 ST.out]; exact ⟨keep_row1 SK.out, _, _, _, _, _, _, setRow_heap _ _ _ _ _ _ ST.out⟩)
                · intro QQ
                  refine ⟨⟨⟨⟨⟨⟨⟨trivial, ?_⟩, ?_⟩, ?_⟩, ?_⟩, ?_⟩, ?_⟩, ?_⟩
                  · refine StepOf.introL (i := 0) rfl (some 115) rfl [] [7] [1, 2, 3, 4] (by kernel_rfl) ?_
                    intro σ aa ww sS sF sU sA K hK
                    clear sF
                    have sl7 := AllSlots.cons_none sA (by kernel_rfl)
                    try simp only [List.getElem?_toArray, List.getElem?_cons_succ, List.getElem?_cons_zero] at sl7
                    replace sA := sA.2
                    clear sA
                    try (have SS := Lib.hid sS; obtain ⟨sK, a0, a1, a2, a3, a4, a5, sT⟩ := sS; have sX := sK.heap HX.out hpne; have c0 := cell_row sX 0; have c1 := cell_row sX 1; have c2 := cell_row sX 2; have c3 := cell_row sX 3; have c4 := cell_row sX 4; have c5 := cell_row sX 5; have e0 := cell_row sT 0; have e1 := cell_row sT 1; have e2 := cell_row sT 2; have e3 := cell_row sT 3; have e4 := cell_row sT 4; have e5 := cell_row sT 5; have r0 := free_row sT 0; have r1 := free_row sT 1; have r2 := free_row sT 2; have r3 := free_row sT 3; have r4 := free_row sT 4; have r5 := free_row sT 5; have ST := Lib.hid sT; have SK := Lib.hid sK; clear sT sX sK)
                    try go_simp
                    refine Shut.out hK _ _ ?_ ?_ ?_
                    · (try clear hK)
                      (try dsimp only)
                      first | (with_reducible exact SS.out) | (with_reducible exact hS12) | (rw [set6 ST.out]; exact ⟨keep_row1 SK.out, _, _, _, _, _, _, setRow_heap _ _ _ _ _ _ ST.out⟩)
                    · (try clear hK)
                      simp only [nthF]
                      (try simp only [upd, if_true, if_false, Nat.reduceEqDiff, reduceIte])
                      first | done | trivial | rfl
                    · refine ⟨?_, ?_, ?_, ?_, trivial⟩
                      all_goals (try clear hK)
                      all_goals simp only [nthF]
                      all_goals (try simp only [upd, if_true, if_false, Nat.reduceEqDiff, reduceIte])
                      all_goals first | done | with_reducible exact fun h => h | exact (fun _ => trivial) | exact fun h => h
                  · refine StepOf.introL (i := 1) rfl (some 116) rfl [] [7] [0, 5] (by kernel_rfl) ?_
                    intro σ aa ww sS sF sU sA K hK
                    clear sF
                    have sl7 := AllSlots.cons_none sA (by kernel_rfl)
                    try simp only [List.getElem?_toArray, List.getElem?_cons_succ, List.getElem?_cons_zero] at sl7
                    replace sA := sA.2
                    clear sA
                    try (have SS := Lib.hid sS; obtain ⟨sK, a0, a1, a2, a3, a4, a5, sT⟩ := sS; have sX := sK.heap HX.out hpne; have c0 := cell_row sX 0; have c1 := cell_row sX 1; have c2 := cell_row sX 2; have c3 := cell_row sX 3; have c4 := cell_row sX 4; have c5 := cell_row sX 5; have e0 := cell_row sT 0; have e1 := cell_row sT 1; have e2 := cell_row sT 2; have e3 := cell_row sT 3; have e4 := cell_row sT 4; have e5 := cell_row sT 5; have r0 := free_row sT 0; have r1 := free_row sT 1; have r2 := free_row sT 2; have r3 := free_row sT 3; have r4 := free_row sT 4; have r5 := free_row sT 5; have ST := Lib.hid sT; have SK := Lib.hid sK; clear sT sX sK)
                    try go_simp
                    refine Shut.out hK _ _ ?_ ?_ ?_
                    · (try clear hK)
                      (try dsimp only)
                      first | (with_reducible exact SS.out) | (with_reducible exact hS12) | (rw [set6 ST.out]; exact ⟨keep_row1 SK.out, _, _, _, _, _, _, setRow_heap _ _ _ _ _ _ ST.out⟩)
                    · (try clear hK)
                      simp only [nthF]
                      (try simp only [upd, if_true, if_false, Nat.reduceEqDiff, reduceIte])
                      first | done | trivial | rfl
                    · refine ⟨?_, ?_, trivial⟩
                      all_goals (try clear hK)
                      all_goals simp only [nthF]
                      all_goals (try simp only [upd, if_true, if_false, Nat.reduceEqDiff, reduceIte])
                      all_goals first | done | with_reducible exact fun h => h | exact (fun _ => trivial) | exact fun h => h
                  · refine StepOf.introL (i := 2) rfl (some 117) rfl [1] [116] [0, 1, 5] (by kernel_rfl) ?_
                    intro σ aa ww sS sF sU sA K hK
                    have f1 : (fun σ _ => σ 1 = .pointer (some ⟨p7, 5, none⟩)) σ ww := sF.1; try dsimp only at f1
                    clear sF
                    have sl116 := AllSlots.cons_who (j := 1) sA (by kernel_rfl)
                    replace sA := sA.2
                    clear sA
                    try (have SS := Lib.hid sS; obtain ⟨sK, a0, a1, a2, a3, a4, a5, sT⟩ := sS; have sX := sK.heap HX.out hpne; have c0 := cell_row sX 0; have c1 := cell_row sX 1; have c2 := cell_row sX 2; have c3 := cell_row sX 3; have c4 := cell_row sX 4; have c5 := cell_row sX 5; have e0 := cell_row sT 0; have e1 := cell_row sT 1; have e2 := cell_row sT 2; have e3 := cell_row sT 3; have e4 := cell_row sT 4; have e5 := cell_row sT 5; have r0 := free_row sT 0; have r1 := free_row sT 1; have r2 := free_row sT 2; have r3 := free_row sT 3; have r4 := free_row sT 4; have r5 := free_row sT 5; have ST := Lib.hid sT; have SK := Lib.hid sK; clear sT sX sK)
                    try rw [f1] at sl116
                    try go_simp
                    refine Shut.out hK _ _ ?_ ?_ ?_
                    · (try clear hK)
                      (try dsimp only)
                      first | (with_reducible exact SS.out) | (with_reducible exact hS12) | (rw [set6 ST.out]; exact ⟨keep_row1 SK.out, _, _, _, _, _, _, setRow_heap _ _ _ _ _ _ ST.out⟩)
                    · (try clear hK)
                      simp only [nthF]
                      (try simp only [upd, if_true, if_false, Nat.reduceEqDiff, reduceIte])
                      first | done | trivial | rfl
                    · refine ⟨?_, ?_, ?_, trivial⟩
                      all_goals (try clear hK)
                      all_goals simp only [nthF]
                      all_goals (try simp only [upd, if_true, if_false, Nat.reduceEqDiff, reduceIte])
                      all_goals first | done | with_reducible exact fun h => h | exact (fun _ => trivial) | exact fun h => h
                  · refine StepOf.introL (i := 3) rfl (some 118) rfl [2, 1] [117] [0, 1, 2, 5] (by kernel_rfl) ?_
                    intro σ aa ww sS sF sU sA K hK
                    have f2 : (fun σ _ => σ 2 = .slice so k co) σ ww := sF.1; try dsimp only at f2
                    clear sF
                    have sl117 := AllSlots.cons_who (j := 2) sA (by kernel_rfl)
                    replace sA := sA.2
                    clear sA
                    try (have SS := Lib.hid sS; obtain ⟨sK, a0, a1, a2, a3, a4, a5, sT⟩ := sS; have sX := sK.heap HX.out hpne; have c0 := cell_row sX 0; have c1 := cell_row sX 1; have c2 := cell_row sX 2; have c3 := cell_row sX 3; have c4 := cell_row sX 4; have c5 := cell_row sX 5; have e0 := cell_row sT 0; have e1 := cell_row sT 1; have e2 := cell_row sT 2; have e3 := cell_row sT 3; have e4 := cell_row sT 4; have e5 := cell_row sT 5; have r0 := free_row sT 0; have r1 := free_row sT 1; have r2 := free_row sT 2; have r3 := free_row sT 3; have r4 := free_row sT 4; have r5 := free_row sT 5; have ST := Lib.hid sT; have SK := Lib.hid sK; clear sT sX sK)
                    try rw [f2] at sl117
                    try go_simp
                    refine Shut.out hK _ _ ?_ ?_ ?_
                    · (try clear hK)
                      (try dsimp only)
                      first | (with_reducible exact SS.out) | (with_reducible exact hS12) | (rw [set6 ST.out]; exact ⟨keep_row1 SK.out, _, _, _, _, _, _, setRow_heap _ _ _ _ _ _ ST.out⟩)
                    · (try clear hK)
                      simp only [nthF]
                      (try simp only [upd, if_true, if_false, Nat.reduceEqDiff, reduceIte])
                      first | done | trivial | rfl
                    · refine ⟨?_, ?_, ?_, ?_, trivial⟩
                      all_goals (try clear hK)
                      all_goals simp only [nthF]
                      all_goals (try simp only [upd, if_true, if_false, Nat.reduceEqDiff, reduceIte])
                      all_goals first | done | with_reducible exact fun h => h | exact (fun _ => trivial) | exact fun h => h
                  · refine StepOf.introL (i := 4) rfl (some 119) rfl [3, 2, 1] [118] [0, 1, 2, 3, 5] (by kernel_rfl) ?_
                    intro σ aa ww sS sF sU sA K hK
                    have f3 : (fun σ _ => σ 3 = .int .i64 (k : Int)) σ ww := sF.1; try dsimp only at f3
                    clear sF
                    have sl118 := AllSlots.cons_who (j := 3) sA (by kernel_rfl)
                    replace sA := sA.2
                    clear sA
                    try (have SS := Lib.hid sS; obtain ⟨sK, a0, a1, a2, a3, a4, a5, sT⟩ := sS; have sX := sK.heap HX.out hpne; have c0 := cell_row sX 0; have c1 := cell_row sX 1; have c2 := cell_row sX 2; have c3 := cell_row sX 3; have c4 := cell_row sX 4; have c5 := cell_row sX 5; have e0 := cell_row sT 0; have e1 := cell_row sT 1; have e2 := cell_row sT 2; have e3 := cell_row sT 3; have e4 := cell_row sT 4; have e5 := cell_row sT 5; have r0 := free_row sT 0; have r1 := free_row sT 1; have r2 := free_row sT 2; have r3 := free_row sT 3; have r4 := free_row sT 4; have r5 := free_row sT 5; have ST := Lib.hid sT; have SK := Lib.hid sK; clear sT sX sK)
                    try rw [f3] at sl118
                    try go_simp
                    refine Shut.out hK _ _ ?_ ?_ ?_
                    · (try clear hK)
                      (try dsimp only)
                      first | (with_reducible exact SS.out) | (with_reducible exact hS12) | (rw [set6 ST.out]; exact ⟨keep_row1 SK.out, _, _, _, _, _, _, setRow_heap _ _ _ _ _ _ ST.out⟩)
                    · (try clear hK)
                      simp only [nthF]
                      (try simp only [upd, if_true, if_false, Nat.reduceEqDiff, reduceIte])
                      first | done | trivial | rfl
                    · refine ⟨?_, ?_, ?_, ?_, ?_, trivial⟩
                      all_goals (try clear hK)
                      all_goals simp only [nthF]
                      all_goals (try simp only [upd, if_true, if_false, Nat.reduceEqDiff, reduceIte])
                      all_goals first | done | with_reducible exact fun h => h | exact (fun _ => trivial) | exact fun h => h
                  · refine StepOf.introL (i := 5) rfl none rfl [0] [2, 115] [0, 1, 2, 3, 4] (by kernel_rfl) ?_
                    intro σ aa ww sS sF sU sA K hK
                    have f0 : (fun σ _ => σ 0 = .agg #[.int .u64 (n0 : Int), .int .u64 (n1 : Int), .bool ((n2 : Int) == 1), .int .i64 (n3 : Int), .int .u32 (n4 : Int), .slice so k co]) σ ww := sF.1; try dsimp only at f0
                    clear sF
                    have sl2 := AllSlots.cons_none sA (by kernel_rfl)
                    try simp only [List.getElem?_toArray, List.getElem?_cons_succ, List.getElem?_cons_zero] at sl2
                    replace sA := sA.2
                    have sl115 := AllSlots.cons_who (j := 0) sA (by kernel_rfl)
                    replace sA := sA.2
                    clear sA
                    try (have SS := Lib.hid sS; obtain ⟨sK, a0, a1, a2, a3, a4, a5, sT⟩ := sS; have sX := sK.heap HX.out hpne; have c0 := cell_row sX 0; have c1 := cell_row sX 1; have c2 := cell_row sX 2; have c3 := cell_row sX 3; have c4 := cell_row sX 4; have c5 := cell_row sX 5; have e0 := cell_row sT 0; have e1 := cell_row sT 1; have e2 := cell_row sT 2; have e3 := cell_row sT 3; have e4 := cell_row sT 4; have e5 := cell_row sT 5; have r0 := free_row sT 0; have r1 := free_row sT 1; have r2 := free_row sT 2; have r3 := free_row sT 3; have r4 := free_row sT 4; have r5 := free_row sT 5; have ST := Lib.hid sT; have SK := Lib.hid sK; clear sT sX sK)
                    try rw [f0] at sl115
                    try go_simp
                    refine Shut.out hK undef _ ?_ ?_ ?_
                    · (try clear hK)
                      (try dsimp only)
                      first | (with_reducible exact SS.out) | (with_reducible exact hS12) | (rw [set6 ST.out]; exact ⟨keep_row1 SK.out, _, _, _, _, _, _, setRow_heap _ _ _ _ _ _ ST.out⟩)
                    · (try clear hK)
                      simp only [nthF]
                      (try simp only [upd, if_true, if_false, Nat.reduceEqDiff, reduceIte])
                      first | done | trivial | rfl | (rw [set6 ST.out]; exact ⟨_, rfl, setRow_heap _ _ _ _ _ _ ST.out⟩)
                    · refine ⟨?_, ?_, ?_, ?_, ?_, trivial⟩
                      all_goals (try clear hK)
                      all_goals simp only [nthF]
                      all_goals (try simp only [upd, if_true, if_false, Nat.reduceEqDiff, reduceIte])
                      all_goals first | done | with_reducible exact fun h => h | exact (fun _ => trivial) | exact fun h => h
                  · refine StepOf.introL (i := 6) rfl (some 3) rfl [4, 5, 0, 1, 2, 3] [119] [0, 1, 2, 3, 4, 5] (by kernel_rfl) ?_
                    intro σ aa ww sS sF sU sA K hK
                    have f4 : (fun σ _ => σ 4 = .bool (decide ((k : Int) ≤ 8))) σ ww := sF.1; try dsimp only at f4
                    clear sF
                    have sl119 := AllSlots.cons_who (j := 4) sA (by kernel_rfl)
                    replace sA := sA.2
                    clear sA
                    try (have SS := Lib.hid sS; obtain ⟨sK, a0, a1, a2, a3, a4, a5, sT⟩ := sS; have sX := sK.heap HX.out hpne; have c0 := cell_row sX 0; have c1 := cell_row sX 1; have c2 := cell_row sX 2; have c3 := cell_row sX 3; have c4 := cell_row sX 4; have c5 := cell_row sX 5; have e0 := cell_row sT 0; have e1 := cell_row sT 1; have e2 := cell_row sT 2; have e3 := cell_row sT 3; have e4 := cell_row sT 4; have e5 := cell_row sT 5; have r0 := free_row sT 0; have r1 := free_row sT 1; have r2 := free_row sT 2; have r3 := free_row sT 3; have r4 := free_row sT 4; have r5 := free_row sT 5; have ST := Lib.hid sT; have SK := Lib.hid sK; clear sT sX sK)
                    try rw [f4] at sl119
                    try go_simp
                    refine Shut.out hK _ _ ?_ ?_ ?_
                    · (try clear hK)
                      (try dsimp only)
                      first | (with_reducible exact SS.out) | (with_reducible exact hS12) | (rw [set6 ST.out]; exact ⟨keep_row1 SK.out, _, _, _, _, _, _, setRow_heap _ _ _ _ _ _ ST.out⟩)
                    · (try clear hK)
                      simp only [nthF]
                      (try simp only [upd, if_true, if_false, Nat.reduceEqDiff, reduceIte])
                      first | done | trivial | rfl
                    · refine ⟨?_, ?_, ?_, ?_, ?_, ?_, trivial⟩
                      all_goals (try clear hK)
                      all_goals simp only [nthF]
                      all_goals (try simp only [upd, if_true, if_false, Nat.reduceEqDiff, reduceIte])
                      all_goals first | done | with_reducible exact fun h => h | exact (fun _ => trivial) | exact fun h => h
                intro σ wE hE fE
                have f6 : (fun σ _ => σ 6 = .bool (decide ((k : Int) ≤ 8))) σ wE := fE.2
                replace fE := fE.1
                try dsimp only at f6
                have f5 : (fun σ w' => ∃ p, p = w.heap.size + 1 ∧ w'.heap[p]? = some (.cells #[.int .u64 (n0 : Int), .int .u64 (n1 : Int), .bool ((n2 : Int) == 1), .int .i64 (n3 : Int), .int .u32 (n4 : Int), .slice so k co] 101 (0, 0))) σ wE := fE.2
                replace fE := fE.1
                try dsimp only at f5
                have f4 : (fun σ _ => σ 4 = .bool (decide ((k : Int) ≤ 8))) σ wE := fE.2
                replace fE := fE.1
                try dsimp only at f4
                have f3 : (fun σ _ => σ 3 = .int .i64 (k : Int)) σ wE := fE.2
                replace fE := fE.1
                try dsimp only at f3
                have f2 : (fun σ _ => σ 2 = .slice so k co) σ wE := fE.2
                replace fE := fE.1
                try dsimp only at f2
                have f1 : (fun σ _ => σ 1 = .pointer (some ⟨p7, 5, none⟩)) σ wE := fE.2
                replace fE := fE.1
                try dsimp only at f1
                have f0 : (fun σ _ => σ 0 = .agg #[.int .u64 (n0 : Int), .int .u64 (n1 : Int), .bool ((n2 : Int) == 1), .int .i64 (n3 : Int), .int .u32 (n4 : Int), .slice so k co]) σ wE := fE.2
                replace fE := fE.1
                try dsimp only at f0
                clear fE
                simp only [fillAll, List.getElem?_toArray, List.getElem?_cons_succ, List.getElem?_cons_zero, Option.bind_some, List.setIfInBounds_toArray, List.set_cons_zero, List.set_cons_succ]
                obtain ⟨_, rfl, hT9⟩ := f5
                have hK9 := hE.1
                have hs6 := f6
                try rw [hs6]
                clear f0 f1 f2 f3 f4 f6 hE hS12
                have HO9 := Lib.hid (own_move HO.out (fun j hj => hK9.block j (own_block_lt HO.out j hj) (by have := (HO.out.lt j hj).1; have := HBE4.out.size; have := HZ4.out; show ¬ j = w.heap.size + 1; omega)))
                have HB9 := Lib.hid (HBR.out.trans (hK9.below (B := w.heap.size) (fun j h => by subst h; omega) (HBR.out.size)))
                have HT9 := Lib.hid hT9
                clear hT9 hK9
                go_wp2
                have hld := run_loadVar_row (P := Try.prog) wE (w.heap.size + 1) 101 101 #[.int .u64 (n0 : Int), .int .u64 (n1 : Int), .bool ((n2 : Int) == 1), .int .i64 (n3 : Int), .int .u32 (n4 : Int), .slice so k co] (0, 0) _ HT9.out Try.underlying101 (by simp) infoRSum
                exact bodyPost_ret (v := .tuple #[.agg #[.int .u64 (n0 : Int), .int .u64 (n1 : Int), .bool ((n2 : Int) == 1), .int .i64 (n3 : Int), .int .u32 (n4 : Int), .slice so k co], .bool (decide ((k : Int) ≤ 8))]) (results_cell2 Try.results44 rfl rfl hld) rfl (rrSum_all HBE.out (by
                  rw [HYES.out, HJ.out]
                  unfold rsum Smy.cells sumF
                  rw [HNN.out.1, HNN.out.2.1, HNN.out.2.2.1, HNN.out.2.2.2, getD_part b 16 (by have := HWJ.out.1; omega), show (b.getD 16 0).toNat = n2 from HN2.out]
                  have hbb : ((n2 : Int) == 1) = decide (n2 = 1) := by rw [Bool.eq_iff_iff]; simp; omega
                  rw [hbb]) (by rw [HJ.out]; exact own_mono HO9.out (by have := HZ4.out; have := HBE4.out.size; omega)) HB9.out)
end Go.Proofs.Ytlcbfpcabalgcaa
