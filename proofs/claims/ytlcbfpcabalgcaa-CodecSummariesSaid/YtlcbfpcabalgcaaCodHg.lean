/-
  Codec: the reference's ReadHeader.
-/
import Derived.Test.YtlcbfpcabalgcaaCodHf
import Derived.StillTailTactics
namespace Go.Proofs.Ytlcbfpcabalgcaa
open Go.RowKit
set_option linter.unusedVariables false
set_option linter.unusedSimpArgs false
set_option linter.unnecessarySimpa false
theorem set6 {w : World} {p : Nat} {t : TypeId} {f : Nat × Nat} {x0 x1 x2 x3 x4 x5 : Value} (h : w.heap[p]? = some (.cells #[x0, x1, x2, x3, x4, x5] t f)) (a0 a1 a2 a3 a4 a5 : Value) :
    (((((w.setCell ⟨p, 0, none⟩ a0).setCell ⟨p, 1, none⟩ a1).setCell ⟨p, 2, none⟩ a2).setCell ⟨p, 3, none⟩ a3).setCell ⟨p, 4, none⟩ a4).setCell ⟨p, 5, none⟩ a5 = w.setRow p #[a0, a1, a2, a3, a4, a5] := by
  rw [setCell_row h]
  repeat rw [setRow_setCell h]
  simp only [List.setIfInBounds_toArray, List.set_cons_zero, List.set_cons_succ]
theorem infoRHeader : (Try.prog.info? 45).map (·.size) = some 6 := by kernel_rfl
/-- What the reference's ReadHeader comes to. -/
def RrH (w : World) (ok : Bool) (x : Hdr) (e : Ending) (w' : World) : Prop := e = .returned (.tuple #[.agg x.cells.toArray, .bool ok]) ∧ Below w.heap.size w w'
theorem rrH_no {w w' : World} {l : List UInt8} {e : Ending} (h : rhdrOk l = false) (he : e = .returned (.tuple #[.agg ZH, .bool false])) (hb : Below w.heap.size w w') : RrH w (rhdrOk l) (rhdrV l) e w' := by
  unfold rhdrV RrH; rw [h, if_neg (by decide), zHdr_cells]; exact ⟨he, hb⟩
theorem num_cut {W : World} {bk o a k cp : Nat} {b : List UInt8} (h : RdB W bk o b) (h1 : a + k ≤ b.length) (hk : 1 ≤ k ∧ k ≤ 8) :
    Calls Try.prog 60 #[.slice (some ⟨bk, o + a, none⟩) k cp] W fun e w' => e = .returned (.int .u64 (rN b a k : Int)) ∧ w' = W := by
  have hl : ((b.drop a).take k).length = k := by simp; omega
  have q := rnum_some bk (o + a) cp ((b.drop a).take k) W (by omega) (h.sub a k h1)
  rw [hl] at q
  refine q.mono fun e w' ⟨h1', h2⟩ => ⟨?_, h2.symm⟩
  rw [h1', rN_part b a k hk h1]; rfl
set_option maxRecDepth 10000 in
set_option maxHeartbeats 8000000 in
theorem rreadHeader_any (l : List UInt8) (w : World) (hl : l.length = 128) :
    Calls Try.prog 20 #[secV l] w (RrH w (rhdrOk l) (rhdrV l)) := by
  have HSZ : Hid ((bvs l).toArray.size = 128) := by unfold Hid; rw [secV_size, hl]
  have hop := fun w' => ropen_any l w' hl
  obtain ⟨k, hk⟩ : ∃ k, openK l = k := ⟨_, rfl⟩
  obtain ⟨b, hb⟩ : ∃ b, openL l = b := ⟨_, rfl⟩
  obtain ⟨oe, hoe⟩ : ∃ oe, openB l = oe := ⟨_, rfl⟩
  rw [hk, hb, hoe] at hop
  have hokd : rhdrOk l = ((oe && decide (k = 6)) && decide (b.length = 26)) := by unfold rhdrOk; rw [hoe, hk, hb]
  have hV : rhdrV l = if rhdrOk l then rhdr b else zHdr := by unfold rhdrV; rw [hb]
  have HOKD := Lib.hid hokd
  have HVV := Lib.hid hV
  have HOP := fun w' => Lib.hid (hop w')
  clear hop hk hb hoe hl hokd hV
  have hB2 : Below w.heap.size w ((w.alloc (.cells (bvs l).toArray 28 (0, 0))).alloc (.cells #[.int .u64 0, .int .u64 0, .int .i64 0, .int .i64 0, .int .i64 0, .int .u32 0] 45 (0, 0))) := ((Below.refl _ _).alloc (Nat.le_refl _) _).alloc (by simp) _
  have hG2 := old_heap (heap_alloc_last w (.cells (bvs l).toArray 28 (0, 0))) ((Below.refl _ _).alloc (Nat.le_refl _) (.cells #[.int .u64 0, .int .u64 0, .int .i64 0, .int .i64 0, .int .i64 0, .int .u32 0] 45 (0, 0)))
  have hT2 := heap_alloc_last (w.alloc (.cells (bvs l).toArray 28 (0, 0))) (.cells #[.int .u64 0, .int .u64 0, .int .i64 0, .int .i64 0, .int .i64 0, .int .u32 0] 45 (0, 0))
  rw [show (w.alloc (.cells (bvs l).toArray 28 (0, 0))).heap.size = w.heap.size + 1 by simp] at hT2
  have HB2 := Lib.hid hB2
  have HG2 := Lib.hid hG2
  have HT2 := Lib.hid hT2
  clear hB2 hG2 hT2
  unfold secV at HOP ⊢
  unfold RopTo at HOP
  go_enter Try.func20, Try.ntmps20
  go_upto_region 1 with fail
  revert HB2 HG2 HT2
  generalize (w.alloc (.cells (bvs l).toArray 28 (0, 0))).alloc (.cells _ 45 (0, 0)) = w2
  intro HB2 HG2 HT2
  go_upto_region 2 with (first
    | (refine wpList_load_row rfl 28 (.tmp 1) rfl w.heap.size rfl _ _ _ _ HG2.out Try.underlying28 rfl (by rw [HSZ.out]; exact size_arr) ?_)
    | (go_at_call 59; refine (HOP _).out.mono ?_; rintro e w4 ⟨v, rfl, ho4, hb4⟩; obtain ⟨sp, cp, rfl⟩ := own_slice1 ho4; have HO4 := Lib.hid (own_byt ho4).1; have HT4 := Lib.hid (old_heap HT2.out hb4); have HB4 := Lib.hid (bnext HB2.out hb4); clear ho4 hb4))
  clear HOP HG2 HT2 HB2
  have hT4 := HT4.out
  have c0 : w4.cell? ⟨w.heap.size + 1, 0, none⟩ = some (.int .u64 0) := cell_row hT4 0; have c1 : w4.cell? ⟨w.heap.size + 1, 1, none⟩ = some (.int .u64 0) := cell_row hT4 1; have c2 : w4.cell? ⟨w.heap.size + 1, 2, none⟩ = some (.int .i64 0) := cell_row hT4 2; have c3 : w4.cell? ⟨w.heap.size + 1, 3, none⟩ = some (.int .i64 0) := cell_row hT4 3; have c4 : w4.cell? ⟨w.heap.size + 1, 4, none⟩ = some (.int .i64 0) := cell_row hT4 4; have c5 : w4.cell? ⟨w.heap.size + 1, 5, none⟩ = some (.int .u32 0) := cell_row hT4 5
  have f0 := free_row hT4 0; have f1 := free_row hT4 1; have f2 := free_row hT4 2; have f3 := free_row hT4 3; have f4 := free_row hT4 4; have f5 := free_row hT4 5
  clear hT4
  cases oe with
  | false =>
    have hno : rhdrOk l = false := by rw [HOKD.out]; rfl
    have HNO := Lib.hid hno
    clear hno
    go_wp2
    rw [set6 HT4.out]
    have hld := run_loadVar_row (P := Try.prog) (w4.setRow (w.heap.size + 1) ZH) (w.heap.size + 1) 45 45 ZH (0, 0) _ (setRow_heap _ _ _ _ _ _ HT4.out) Try.underlying45 (by simp) infoRHeader
    exact bodyPost_ret (v := .tuple #[.agg ZH, .bool false]) (results_cell2 Try.results20 rfl rfl hld) rfl (rrH_no HNO.out rfl (below_row HB4.out (by omega)))
  | true =>
    by_cases hk : k = 6
    · subst hk
      by_cases h26 : b.length = 26
      · have hyes : rhdrOk l = true := by rw [HOKD.out, h26]; rfl
        have HYES := Lib.hid hyes
        have hsp : ∃ bk o, sp = some ⟨bk, o, none⟩ ∧ 26 ≤ cp ∧ RdB w4 bk o b := by
          rcases HO4.out with ⟨h', _⟩ | ⟨bk, o, c', he, h2, h3, h4⟩
          · rw [h'] at h26; simp at h26
          · injection he with e1 e2 e3; subst e1; subst e3
            exact ⟨bk, o, rfl, by omega, h4⟩
        obtain ⟨bk, o, rfl, hcp, hrd⟩ := hsp
        have hrX : RdB w4.drew bk o b := hrd
        have q0 := num_cut (cp := cp) hrX (a := 0) (k := 8) (by omega) (by decide)
        have q1 := num_cut (cp := cp - 8) hrX (a := 8) (k := 8) (by omega) (by decide)
        have q2 := num_cut (cp := cp - 16) hrX (a := 16) (k := 2) (by omega) (by decide)
        have q3 := num_cut (cp := cp - 18) hrX (a := 18) (k := 2) (by omega) (by decide)
        have q4 := num_cut (cp := cp - 20) hrX (a := 20) (k := 2) (by omega) (by decide)
        have q5 := num_cut (cp := cp - 22) hrX (a := 22) (k := 4) (by omega) (by decide)
        rw [Nat.add_zero] at q0
        have hrh := rhdr_ok b
        obtain ⟨l0, l1, -, -, -, l5⟩ := hrh
        have l2 := Nat.lt_of_lt_of_le (rN_lt b 16 2) (show 256 ^ 2 ≤ 65536 by decide)
        have l3 := Nat.lt_of_lt_of_le (rN_lt b 18 2) (show 256 ^ 2 ≤ 65536 by decide)
        have l4 := Nat.lt_of_lt_of_le (rN_lt b 20 2) (show 256 ^ 2 ≤ 65536 by decide)
        have hcells : (rhdrV l).cells.toArray = #[.int .u64 (rN b 0 8 : Int), .int .u64 (rN b 8 8 : Int), .int .i64 (rN b 16 2 : Int), .int .i64 (rN b 18 2 : Int), .int .i64 (rN b 20 2 : Int), .int .u32 (rN b 22 4 : Int)] := by rw [HVV.out, hyes, if_pos rfl]; rfl
        change rN b 0 8 < 2 ^ 64 at l0
        change rN b 8 8 < 2 ^ 64 at l1
        change rN b 22 4 < 2 ^ 32 at l5
        obtain ⟨n0, hn0⟩ : ∃ n, rN b 0 8 = n := ⟨_, rfl⟩
        obtain ⟨n1, hn1⟩ : ∃ n, rN b 8 8 = n := ⟨_, rfl⟩
        obtain ⟨n2, hn2⟩ : ∃ n, rN b 16 2 = n := ⟨_, rfl⟩
        obtain ⟨n3, hn3⟩ : ∃ n, rN b 18 2 = n := ⟨_, rfl⟩
        obtain ⟨n4, hn4⟩ : ∃ n, rN b 20 2 = n := ⟨_, rfl⟩
        obtain ⟨n5, hn5⟩ : ∃ n, rN b 22 4 = n := ⟨_, rfl⟩
        rw [hn0] at q0 l0
        rw [hn1] at q1 l1
        rw [hn2] at q2 l2
        rw [hn3] at q3 l3
        rw [hn4] at q4 l4
        rw [hn5] at q5 l5
        rw [hn0, hn1, hn2, hn3, hn4, hn5] at hcells
        have HCELLS := Lib.hid hcells
        have hlast : b.length - 22 = 4 := by omega
        rw [← hlast] at q5
        have Q0 := Lib.hid q0
        have Q1 := Lib.hid q1
        have Q2 := Lib.hid q2
        have Q3 := Lib.hid q3
        have Q4 := Lib.hid q4
        have Q5 := Lib.hid q5
        have w2' : IntKind.i64.wrap (n2 : Int) = (n2 : Int) := IntWalk.i64_in _ (by omega)
        have w3' : IntKind.i64.wrap (n3 : Int) = (n3 : Int) := IntWalk.i64_in _ (by omega)
        have w4' : IntKind.i64.wrap (n4 : Int) = (n4 : Int) := IntWalk.i64_in _ (by omega)
        have w5' : IntKind.u32.wrap (n5 : Int) = (n5 : Int) := by unfold IntKind.wrap; simp [IntKind.signed, IntKind.bits]; omega
        have h26' : (b.length : Int) = 26 := by omega
        have z8 : (8 : Int) ≤ (cp : Int) := by omega
        have z16 : (16 : Int) ≤ (cp : Int) := by omega
        have z18 : (18 : Int) ≤ (cp : Int) := by omega
        have z20 : (20 : Int) ≤ (cp : Int) := by omega
        have z22 : (22 : Int) ≤ (cp : Int) := by omega
        have c8 : ¬ cp = 8 := by omega
        have c16 : ¬ cp = 16 := by omega
        have c18 : ¬ cp = 18 := by omega
        have c20 : ¬ cp = 20 := by omega
        have c22 : ¬ cp = 22 := by omega
        clear hyes hrd hrX q0 q1 q2 q3 q4 q5 hcells hlast hn0 hn1 hn2 hn3 hn4 hn5 h26 l0 l1 l2 l3 l4 l5
        go_upto_region 4 with fail
        refine wp_region_still_tail 23 (by kernel_rfl) (by kernel_rfl) ?_
        simp only [List.take_succ_cons, List.take_zero, List.drop_succ_cons, List.drop_zero]
        still_step
        still_step
        still_call Q0.out
        still_step
        still_step
        still_call Q1.out
        still_step
        still_step
        still_call Q2.out
        still_step
        still_step
        still_step
        still_call Q3.out
        still_step
        still_step
        still_step
        still_call Q4.out
        still_step
        still_step
        still_step
        still_call Q5.out
        still_step
        still_step
        refine wpStill_nil ?_
        change wpList _ _ _ _ _ w4.drew
        go_wp2
        rw [set6 HT4.out]
        have hT5 : ((w4.setRow (w.heap.size + 1) #[.int .u64 (n0 : Int), .int .u64 (n1 : Int), .int .i64 (n2 : Int), .int .i64 (n3 : Int), .int .i64 (n4 : Int), .int .u32 (n5 : Int)]).drew).heap[w.heap.size + 1]? = some (.cells #[.int .u64 (n0 : Int), .int .u64 (n1 : Int), .int .i64 (n2 : Int), .int .i64 (n3 : Int), .int .i64 (n4 : Int), .int .u32 (n5 : Int)] 45 (0, 0)) := setRow_heap _ _ _ _ _ _ HT4.out
        have hld := run_loadVar_row (P := Try.prog) ((w4.setRow (w.heap.size + 1) #[.int .u64 (n0 : Int), .int .u64 (n1 : Int), .int .i64 (n2 : Int), .int .i64 (n3 : Int), .int .i64 (n4 : Int), .int .u32 (n5 : Int)]).drew) (w.heap.size + 1) 45 45 _ (0, 0) _ hT5 Try.underlying45 (by simp) infoRHeader
        exact bodyPost_ret (v := .tuple #[.agg #[.int .u64 (n0 : Int), .int .u64 (n1 : Int), .int .i64 (n2 : Int), .int .i64 (n3 : Int), .int .i64 (n4 : Int), .int .u32 (n5 : Int)], .bool true]) (results_cell2 Try.results20 rfl rfl hld) rfl ⟨by rw [HYES.out, HCELLS.out], (below_row HB4.out (by omega)).drew⟩
      · have hno : rhdrOk l = false := by rw [HOKD.out]; simp [h26]
        have HNO := Lib.hid hno
        have h26' : ((b.length : Int) != 26) = true := bne_iff_ne.2 (by omega)
        clear hno h26
        go_wp2
        rw [set6 HT4.out]
        have hld := run_loadVar_row (P := Try.prog) (w4.setRow (w.heap.size + 1) ZH) (w.heap.size + 1) 45 45 ZH (0, 0) _ (setRow_heap _ _ _ _ _ _ HT4.out) Try.underlying45 (by simp) infoRHeader
        exact bodyPost_ret (v := .tuple #[.agg ZH, .bool false]) (results_cell2 Try.results20 rfl rfl hld) rfl (rrH_no HNO.out rfl (below_row HB4.out (by omega)))
    · have hno : rhdrOk l = false := by rw [HOKD.out]; simp [hk]
      have HNO := Lib.hid hno
      have hkk : ((k.toNat : Int) != 6) = true := kind_ne k 6 hk
      clear hno hk
      go_wp2
      rw [set6 HT4.out]
      have hld := run_loadVar_row (P := Try.prog) (w4.setRow (w.heap.size + 1) ZH) (w.heap.size + 1) 45 45 ZH (0, 0) _ (setRow_heap _ _ _ _ _ _ HT4.out) Try.underlying45 (by simp) infoRHeader
      exact bodyPost_ret (v := .tuple #[.agg ZH, .bool false]) (results_cell2 Try.results20 rfl rfl hld) rfl (rrH_no HNO.out rfl (below_row HB4.out (by omega)))
end Go.Proofs.Ytlcbfpcabalgcaa
