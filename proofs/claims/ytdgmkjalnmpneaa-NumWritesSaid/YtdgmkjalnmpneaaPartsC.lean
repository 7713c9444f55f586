/-
  NumWrites: Close, and the law's walk.
-/
import Derived.Test.YtdgmkjalnmpneaaPartsB
import Derived.Deep.RegionHeld3
import Derived.Test.YtdgmkjalnmpneaaLaw01
namespace Go.Proofs.Ytdgmkjalnmpneaa
open Go.RowKit
set_option linter.unusedVariables false
set_option linter.unusedSimpArgs false
set_option maxHeartbeats 4000000 in
set_option maxRecDepth 10000 in
theorem rdclose_ok (g : Nat) (l : List UInt8) (a : Nat) (w : World) (h : RdrAt w g ⟨l, a, 0⟩) (hz : ∀ i, a ≤ i → i < 128 → l.getD i 0 = 0) :
    Calls Try.prog 23 #[.pointer (some ⟨g, 0, none⟩)] w (RetN w 0) := by
  have ha : a ≤ 128 := h.2.1
  have c1 : w.cell? ⟨g, 128, none⟩ = some (.int .i64 a) := h.c128
  have c2 : w.cell? ⟨g, 129, none⟩ = some (.int .i64 0) := h.c129
  have HRD := Lib.hid h.rdb
  have hl : l.length = 128 := h.1
  clear h
  have hb1 : (a : Int) ≤ 128 := by omega
  have hb0 : (0 : Int) ≤ (a : Int) := by omega
  have hu := Try.underlying43
  go_enter Try.func23, Try.ntmps23
  go_upto_region 3 with fail
  go_quiet (fail)
  have hA : a < 128 → (some (if 128 = a then (⟨g, 0, none⟩ : Addr) else ⟨g, a, none⟩)) = some ⟨g, a, none⟩ := fun h => by rw [if_neg (by omega)]
  revert hA
  generalize (some (if 128 = a then (⟨g, 0, none⟩ : Addr) else ⟨g, a, none⟩)) = A
  intro hA
  have hb0 : Below w.heap.size w (w.drewN nq) := bdrewN (Below.refl _ w) nq
  have HRD2 := Lib.hid (HRD.out.below hb0)
  generalize w.drewN nq = w1 at HRD2 hb0 ⊢
  go_wp2
  go_loopw [23] (fun i wr => ∃ j : Nat, j ≤ 128 - a ∧ i = .int .i64 (j : Int) ∧ wr = w1) (fun i _ => (128 - intOf i).toNat)
  case atStart => exact ⟨0, by omega, by rfl, rfl⟩
  case round =>
    obtain ⟨j, hj, rfl, rfl⟩ := hrel
    by_cases hlt : j < 128 - a
    · have hA2 := hA (by omega)
      subst hA2
      have hc := HRD2.out (a + j) (by omega)
      rw [hz (a + j) (by omega) (by omega), Nat.zero_add] at hc
      have hc2 : wr.cell? ⟨g, a + j, none⟩ = some (.int .u8 0) := hc
      have hcmp : (j : Int) < ((128 - a : Nat) : Int) := by omega
      clear hc
      go_wp2
      exact ⟨⟨j + 1, by omega, by go_num, by first | trivial | rfl⟩, by simp [intOf]; omega⟩
    · have hcmp : ¬ ((j : Int) < ((128 - a : Nat) : Int)) := by omega
      go_wp2
      go_ret
      exact ⟨rfl, hb0⟩
theorem step_append_zeros {ops : Array Oper} {o : Oper} {a : Act} {w : World} {K : Act → World → Prop} {Q : Exit → Act → World → Prop} {E : Prop} (hgd : o.guard = none) (s x : Operand)
    (ho : o.op = .call { callee := .builtin .append, args := #[s, x], argTypes := #[22, 3] })
    (base m : Nat) (v : Value) (l : List UInt8) (hs : a.eval s = v) (hown : w.ownsRow base 5 1 v l.length (bvs l)) (hx : a.eval x = .int .i64 (m : Int)) (hle : l.length + m ≤ 140737488355328) (hbase : base ≤ w.heap.size)
    (h : ∀ v' w', w'.ownsRow base 5 1 v' (l ++ List.replicate m 0).length (bvs (l ++ List.replicate m 0)) → Below base w w' → K (a.put o.dst v') w') :
    if Region.wanted o (yielded ops a.tmps) = true then Oper.wp Try.prog o a w K Q else E := by
  have hw : Region.wanted o (yielded ops a.tmps) = true := by simp [Region.wanted, hgd]
  rw [if_pos hw]
  obtain ⟨v', w', hr, h2, h3⟩ := run_append_zeros_bytes w base m v l o.type hown infoU8 hle hbase
  exact Lib.wp_append_run w s x _ _ ho v _ hs hx v' w' hr (h v' w' h2 h3)
theorem p_equal_sector (w : World) (xs ys : List UInt8) (hx : xs.length = 128) (hy : ys.length = 128) : (Op.equalIn 10000 43 (secV xs) (secV ys)).run Try.prog w = .ok (decide (xs = ys)) w := by
  obtain ⟨i, hi⟩ : ∃ i, Try.prog.info? 5 = some i := by
    obtain ⟨i, hi, _⟩ := info_parts infoU8
    exact ⟨i, hi⟩
  exact equal_sec Try.underlying43 hi (by kernel_rfl) (by kernel_rfl) Try.underlying5 w xs ys hx hy
theorem RdrAt.below {w w' : World} {g : Nat} {s : RSt} (h : RdrAt w g s) (hb : Below w.heap.size w w') : RdrAt w' g s := ⟨h.1, h.2.1, (hb.block g (Array.getElem?_eq_some_iff.1 h.2.2).1).trans h.2.2⟩
theorem grown_below' {g B : Nat} {w w' : World} (h : w.grownBy w' (some g)) (hB : B ≤ w.heap.size) (hg : B ≤ g) : Below B w w' := ⟨h.os, h.tape, h.output, h.size, fun k hk => h.block k (by omega) (by simp; omega)⟩
theorem range_below {w w' : World} {p : Nat} {cs : List Value} (h : w.rangeAt p 0 cs) (hp : p < w.heap.size) (hb : Below w.heap.size w w') : w'.rangeAt p 0 cs := fun j v hv => (hb.cell (p := ⟨p, 0 + j, none⟩) hp).trans (h j v hv)
theorem zpad_zero (b : List UInt8) (i : Nat) (h : b.length ≤ i) : (zpad 128 b).getD i 0 = 0 := by
  unfold zpad
  rw [List.getD_eq_getElem?_getD, List.getElem?_append_right h, List.getElem?_replicate]
  split <;> rfl
theorem two_keep {w w' : World} {p o1 o2 : Nat} {v1 v2 : Value} (h : w.cell? ⟨p, o1, none⟩ = some v1 ∧ w.cell? ⟨p, o2, none⟩ = some v2) (hb : Below w.heap.size w w') : w'.cell? ⟨p, o1, none⟩ = some v1 ∧ w'.cell? ⟨p, o2, none⟩ = some v2 :=
  ⟨(hb.cell (p := ⟨p, o1, none⟩) (World.block_lt_of_cell? w _ h.1)).trans h.1, (hb.cell (p := ⟨p, o2, none⟩) (World.block_lt_of_cell? w _ h.2)).trans h.2⟩
theorem two_only {w w' : World} {p g o1 o2 : Nat} {v1 v2 : Value} (h : w.cell? ⟨p, o1, none⟩ = some v1 ∧ w.cell? ⟨p, o2, none⟩ = some v2) (hb : OnlyAt g w w') (hg : g ≠ p) : w'.cell? ⟨p, o1, none⟩ = some v1 ∧ w'.cell? ⟨p, o2, none⟩ = some v2 := by
  have hh : w'.heap[p]? = w.heap[p]? := hb.1.block p (World.block_lt_of_cell? w _ h.1) (by simp; exact fun e => hg e.symm)
  exact ⟨(World.cell?_of_block (a := ⟨p, o1, none⟩) hh).trans h.1, (World.cell?_of_block (a := ⟨p, o2, none⟩) hh).trans h.2⟩
set_option maxHeartbeats 8000000 in
set_option maxRecDepth 10000 in
theorem numWrites_walk (v : Value) (B : List Pt) (w : World) (hP : PtsAt w v B) :
    Calls Try.prog 6 #[v] w (RetT w true) := by
  have HP := Lib.hid hP
  obtain ⟨A, c, rfl, _⟩ := hP
  have hz := zero_sec
  go_enter Try.func6, Try.ntmps6
  go_upto_region 3 with (first
    | (go_at_call 7; go_must (refine (awake01 _).mono ?_; rintro e w1 ⟨rfl, hb1⟩; have HB1 := Lib.hid hb1; have HP1 := Lib.hid (HP.out.below hb1); clear hb1)))
  go_upto_region 4 with (first
    | (go_at_call 15; go_must (refine (few_any _ B _ HP1.out).mono ?_; rintro e w2 ⟨v2, rfl, hp2, hb2⟩; have HB2 := Lib.hid (bnext HB1.out hb2); have HP2 := Lib.hid hp2; obtain ⟨A2, c2, rfl, hl2, _⟩ := hp2; clear hb2)))
  clear HP HP1 HB1
  revert HP2 hl2
  generalize fewL B (min 40 B.length) = L
  intro HP2 hl2
  have hws : (wSec (wAll L)).length = 128 := by
    unfold wSec
    split
    · exact zpad_length _ _ (wAll_le L)
    · simp
  have HR := Lib.hid (run_any _ L w2 HP2.out)
  unfold SecTo secV at HR
  go_upto_region 5 with (first
    | (go_at_call 16; go_must (refine HR.out.mono ?_; rintro e w3 ⟨rfl, hb3⟩; have HB3 := Lib.hid hb3; clear hb3))
    | (refine wpList_store_row rfl 43 (.tmp 3) (.tmp 18) rfl w3.heap.size zArr _ 43 rfl rfl (heap_alloc_last _ _) (by rw [secV_size, hws]; exact size_sec) (by rw [secV_size, hws, zArr_size]) (sec_one _) ?_))
  rw [World.setRow_alloc_new]
  have hS4 := new_heap w3 (.cells (bvs (wSec (wAll L))).toArray 43 (0, 0))
  have hB4 : Below w2.heap.size w2 (w3.alloc (.cells (bvs (wSec (wAll L))).toArray 43 (0, 0))) := HB3.out.alloc HB3.out.size _
  have hp3 : w.heap.size ≤ w3.heap.size := Nat.le_trans HB2.out.size HB3.out.size
  clear HR HB3 hz
  revert hS4 hB4 hp3
  generalize w3.alloc (.cells (bvs (wSec (wAll L))).toArray 43 (0, 0)) = w4
  generalize w3.heap.size = p3
  intro hS4 hB4 hp3
  have HS4 := Lib.hid hS4
  have HP4 := Lib.hid (HP2.out.below hB4)
  have HB4 := Lib.hid (bnext HB2.out hB4)
  clear hS4 hB4 HP2 HB2
  have HW := Lib.hid (rwrite_any _ L w4 HP4.out)
  unfold WrOut at HW
  go_upto_region 6 with (first
    | (go_at_call 17; go_must (refine HW.out.mono ?_; rintro e w5 ⟨v5, rfl, hy5, hb5⟩; have HY5 := Lib.hid hy5; have HS5 := Lib.hid (old_heap HS4.out hb5); have HP5 := Lib.hid (HP4.out.below hb5); have HB5 := Lib.hid (bnext HB4.out hb5); clear hy5 hb5)))
  clear HS4 HP4 HB4 HW
  have hle := wAll_le L
  have herr := wAll_err L
  have hol : (wOut (wAll L)).length ≤ 128 := by unfold wOut; split; exact hle; simp
  obtain ⟨cs, hcs⟩ : ∃ cs, bvs (wSec (wAll L)) = cs := ⟨_, rfl⟩
  have hFS : full (wOut (wAll L)) = wSec (wAll L) := by
    unfold wOut wSec
    split
    · exact zpad_full hle
    · simp [full]
  have hd5 : Below w5.heap.size w5 w5.drew := (Below.refl _ w5).drew
  have HF := Lib.hid (full_any _ (wOut (wAll L)) w5.drew (by omega) (HY5.out.below hd5))
  rw [hFS] at HF
  have heq : ∀ W : World, (Op.equalIn 10000 43 (.agg (bvs (wSec (wAll L))).toArray) (.agg (bvs (wSec (wAll L))).toArray)).run Try.prog W = .ok true W := fun W => by have q := p_equal_sector W _ _ hws hws; rw [decide_eq_true rfl] at q; exact q
  unfold secV at HF
  rw [hcs] at HF heq HS5
  have hcl : cs.length = 128 := by rw [← hcs, bvs_length, hws]
  have hu := Try.underlying43
  have hi : (Try.prog.info? 43).map (·.size) = some cs.length := by rw [hcl]; exact size_sec
  have hrg : w5.rangeAt p3 0 cs := fun j v hv => by rw [cell_row HS5.out]; simpa using hv
  have hp5 : p3 < w5.heap.size := (Array.getElem?_eq_some_iff.1 HS5.out).1
  have hrd : w5.drew.rangeAt p3 0 cs := range_below hrg hp5 hd5
  rw [hcs]
  rcases herr with h0 | h1
  · rw [h0, show ((0 : Int) == 0) = true from rfl]
    obtain ⟨b, hb⟩ : ∃ b, wAll L = (b, 0) := ⟨(wAll L).1, by rw [← h0]⟩
    have hcs2 : cs = bvs (zpad 128 b) := by rw [← hcs, hb]; unfold wSec; rw [if_pos rfl]
    have hY := HY5.out
    rw [hb, show wOut (b, 0) = b from rfl] at hY
    rw [hb] at hle
    dsimp only at hle
    obtain ⟨s5, c5, rfl, _⟩ := hY.form
    have HCS := Lib.hid hcs2
    have HBB := Lib.hid hb
    clear hFS hd5 hws hcs hY hcs2 hb
    go_region_held3 (fun w' => w'.rangeAt p3 0 cs) (first | exact hrd | exact range_below hrd hp5 ‹_›)
      (first
        | (go_at_call 18; go_must (refine HF.out.mono ?_; rintro e w6 ⟨rfl, hb6⟩)))
    have HB6 := Lib.hid (bnext HB5.out (Below.trans (Below.refl _ w5).drew (by exact hb6)))
    have hb56 : Below w5.heap.size w5 w6 := Below.trans (Below.refl _ w5).drew (by exact hb6)
    have HP6 := Lib.hid (HP5.out.below hb56)
    have HS6 := Lib.hid (old_heap HS5.out hb56)
    clear hb6 hb56 HP5 HS5 HB5 hrg hrd heq HF HY5
    clear h0 hol
    have HN := Lib.hid (nread_any (zpad 128 b) w6 (zpad_length _ _ hle))
    unfold secV at HN
    rw [← HCS.out] at HN
    go_upto_region 11 with (first
      | (refine wpList_load_row rfl 43 (.tmp 3) rfl p3 rfl _ _ _ _ HS6.out hu rfl (by simp only [List.size_toArray]; exact hi) ?_)
      | (go_at_call 19; go_must (refine HN.out.mono ?_; rintro e w7 ⟨g, rfl, hg7, hr7, hb7⟩; have HR7 := Lib.hid hr7; have HB7 := Lib.hid hb7; clear hr7 hb7)))
    clear HN HCS HS6
    go_wp2
    go_loopw [43] (fun i wr => ∃ j : Nat, j ≤ L.length ∧ i = .int .i64 (j : Int) ∧ Hid (RdrAt wr g ⟨zpad 128 b, (wAll (L.take j)).1.length, 0⟩) ∧ Hid (Below w6.heap.size w6 wr)) (fun i _ => (L.length - intOf i).toNat)
    case atStart => exact ⟨0, by omega, by rfl, HR7, HB7⟩
    case round =>
      clear HR7 HB7
      obtain ⟨j, hj, rfl, HR, HB⟩ := hrel
      by_cases h1 : j < L.length
      · obtain ⟨x, hx⟩ : ∃ x, L[j]? = some x := ⟨_, List.getElem?_eq_getElem h1⟩
        obtain ⟨A', c', hA', _, hL, hok⟩ := HP6.out
        simp only [Value.slice.injEq, true_and] at hA'
        obtain ⟨hA1, rfl⟩ := hA'
        subst hA1
        obtain ⟨bb, o, hA, hcell⟩ := hL (fun e => by rw [e] at h1; exact absurd h1 (Nat.not_lt_zero _))
        subst hA
        have hpx := hok x (List.mem_of_getElem? hx)
        obtain ⟨q0, q1, q2, q3⟩ := part_cells (w := wr) (fun i x hx j hj => by
          have hc := hcell i x hx j hj
          rw [List.getElem?_eq_getElem (by rw [ptF_len]; exact hj)] at hc ⊢
          exact (HB.out.cell (p := ⟨bb, _, none⟩) (World.block_lt_of_cell? w6 _ hc)).trans hc) hx
        obtain ⟨s, r, e1, e2, hpk, hbs⟩ := wAll_at HBB.out hx
        rw [e1] at HR
        dsimp only at HR
        have HPX6 := Lib.hid hpx
        have HPX := Lib.hid (hpx.below HB.out)
        have HE2 := Lib.hid e2
        have HBS := Lib.hid hbs
        have HPK := Lib.hid hpk
        clear hcell hx hL hok hpx e1 e2 hbs hpk
        unfold ptV at q3
        go_upto_region 14 with fail
        clear q0 q1 q2 q3
        have hsz := HB.out.size
        have hb2 := (Below.refl wr.heap.size wr).alloc (Nat.le_refl _) (.cells (boxP x) 52 (0, 0))
        have hP2 := PtAt.new wr x
        have hR2 := HR.out.below hb2
        have hPX2 := HPX.out.below hb2
        have hB2 := HB.out.trans (hb2.mono hsz)
        have hgl : g < wr.heap.size := (Array.getElem?_eq_some_iff.1 HR.out.2.2).1
        obtain ⟨w2, hw2⟩ : ∃ w2, wr.alloc (.cells #[.int .i64 x.width, .int .u64 (x.num : Int), .bool x.raw, .slice x.A x.bs.length x.c] 52 (0, 0)) = w2 := ⟨_, rfl⟩
        have HP2 : Hid (PtAt w2 wr.heap.size x) := Lib.hid (by rw [← hw2]; exact hP2)
        have HR2 : Hid (RdrAt w2 g ⟨zpad 128 b, s.length, 0⟩) := Lib.hid (by rw [← hw2]; exact hR2)
        have HPX2 : Hid (PtOk w2 x) := Lib.hid (by rw [← hw2]; exact hPX2)
        have HB2 : Hid (Below w6.heap.size w6 w2) := Lib.hid (by rw [← hw2]; exact hB2)
        have hp62 : wr.heap.size < w2.heap.size := by rw [← hw2]; simp
        have hsz2 : w6.heap.size ≤ w2.heap.size := HB2.out.size
        rw [hw2]
        clear hP2 hR2 hPX2 hB2 hw2 hb2 HPX HR HB
        generalize wr.heap.size = p6 at *
        obtain ⟨q0, q1, q2, q3⟩ := HP2.out
        unfold ptV at q3
        cases hr : x.raw with
        | true =>
          rw [hr] at q2
          have hrb := rBytes_part HBS.out HPK.out
          have HBY := Lib.hid (rdbytes_any g ⟨zpad 128 b, s.length, 0⟩ x.width w2 HR2.out)
          rw [hrb] at HBY
          unfold RdOwn at HBY
          have hpb : pB x = x.bs ++ List.replicate (x.width.toNat - x.bs.length) 0 := by unfold pB; rw [if_pos hr]
          have hpo := HPK.out
          unfold pOk at hpo
          rw [hr, if_pos rfl] at hpo
          have hpo := of_decide_eq_true hpo
          obtain ⟨k, hk⟩ : ∃ k : Nat, x.width = (k : Int) := ⟨x.width.toNat, by omega⟩
          have hkn : x.width.toNat = k := by omega
          rw [hkn] at hpb
          rw [hk] at q0 HBY hpo
          have HPB := Lib.hid hpb
          clear hrb hpb
          go_upto_region 16 with (first
            | (go_at_call 20; go_must (refine HBY.out.mono ?_; rintro e w8 ⟨v8, rfl, hown8, hr8, hg8⟩; obtain ⟨s8, c8, rfl⟩ := own_slice1 hown8; have HY8 := Lib.hid (own_byt hown8).1; have HR8 := Lib.hid hr8; have HP8 := Lib.hid (HP2.out.grown hg8 hp62 (fun k hk => by cases hk; omega)); have HG8 := Lib.hid (grown_below' hg8 hsz2 hg7); have hp68 : p6 < w8.heap.size := Nat.lt_of_lt_of_le hp62 hg8.size; clear hown8 hr8 hg8)))
          have hB8 := HB2.out.trans HG8.out
          have hPX8 := HPX6.out.below hB8
          have hd8 : Below w8.heap.size w8 w8.drew := (Below.refl _ w8).drew
          have HCP := Lib.hid (copy_any (ptV x) x.bs w8.drew (by omega) (hPX8.2.2.2.2.below hd8))
          unfold ptV RetB at HCP
          clear q0 q1 q2 q3
          obtain ⟨q0, q1, q2, q3⟩ := HP8.out
          unfold ptV at q3
          rw [hk] at q0
          have hm : IntKind.i64.wrap ((k : Int) - (x.bs.length : Int)) = ((k - x.bs.length : Nat) : Int) := by rw [IntWalk.i64_in _ (by omega)]; omega
          have hkk := two_keep ⟨q0, q3⟩ hd8
          have hp6d : p6 < w8.drew.heap.size := hp68
          have HB8 := Lib.hid hB8
          have HBB8 := Lib.hid (bnext HB6.out hB8)
          clear hB8 hPX8 q0 q1 q2 q3 HP2 HP8
          go_region_held3 (fun w' => w'.cell? ⟨p6, 0, none⟩ = some (.int .i64 (k : Int)) ∧ w'.cell? ⟨p6, 3, none⟩ = some (.slice x.A x.bs.length x.c)) (first | exact hkk | exact two_keep hkk hb9 | exact two_keep hkk hb11 | exact two_keep hkk hb12 | trace_state)
            (first
              | (go_at_call 8; go_must (refine HCP.out.mono ?_; rintro e w9 ⟨v9, rfl, hown9, hb9⟩))
              | ((refine step_append_zeros rfl (.tmp 56) (.tmp 62) (by rfl) w8.drew.heap.size (k - x.bs.length) _ x.bs (by rfl) ‹_› (by rfl) (by omega) (Below.size ‹_›) ?_; intro v10 w10 hown10 hb10; have hb11 := Below.trans hb9 hb10))
              | (go_at_call 11; go_must (have HEQ := equal_any _ _ (pB x) (x.bs ++ List.replicate (k - x.bs.length) 0) w10 (by have := (pOk_len HPK.out).2; omega) (by simp; omega) (HY8.out.below (Below.trans hd8 hb11)) (own_byt hown10).1; rw [decide_eq_true HPB.out] at HEQ; refine HEQ.mono ?_; rintro e w11 ⟨rfl, nn, rfl⟩; have hb12 := bdrewN hb11 nn)))
          have hb8z := Below.trans hd8 hb12
          have HR12 := Lib.hid (HR8.out.below hb8z)
          have HB12 := Lib.hid (HB8.out.trans (hb8z.mono HB8.out.size))
          revert HR12 HB12
          clear hb8z hb12 hb11 hd8 hkk HR8 HB8 HG8 HBB8 HY8 HCP
          generalize w10.drewN nn = w12
          intro HR12 HB12
          go_wp2
          exact ⟨⟨j + 1, by omega, by go_num, Lib.hid (by rw [HE2.out]; exact HR12.out), HB12⟩, by simp [intOf]; omega⟩
        | false =>
          rw [hr] at q2
          have hrb := rNum_part HBS.out HPK.out hr
          have hd2 : Below w2.heap.size w2 w2.drew := (Below.refl _ w2).drew
          have HBY := Lib.hid (rdnum_any g ⟨zpad 128 b, s.length, 0⟩ x.width w2.drew (HR2.out.below hd2))
          rw [hrb] at HBY
          unfold RdTo at HBY
          dsimp only at HBY
          have hkk := two_keep ⟨q0, q1⟩ hd2
          have hgp : g ≠ p6 := by omega
          go_upto_region 18 with fail
          clear hrb q0 q1 q2 q3
          go_region_held3 (fun w' => w'.cell? ⟨p6, 0, none⟩ = some (.int .i64 x.width) ∧ w'.cell? ⟨p6, 1, none⟩ = some (.int .u64 (x.num : Int))) (first | exact hkk | exact two_only hkk ho8 hgp | trace_state)
            (first
              | (go_at_call 21; go_must (refine HBY.out.mono ?_; rintro e w8 ⟨rfl, hr8, ho8⟩)))
          have hb8 : Below w6.heap.size w2.drew w8 := ho8.below (by exact hsz2) hg7
          have HR8 := Lib.hid hr8
          have HB8 := Lib.hid (HB2.out.trans (Below.trans (hd2.mono hsz2) hb8))
          clear hr8 hb8 ho8 hkk hd2 HBY
          go_wp2
          exact ⟨⟨j + 1, by omega, by go_num, Lib.hid (by rw [HE2.out]; exact HR8.out), HB8⟩, by simp [intOf]; omega⟩
      · obtain rfl : j = L.length := by omega
        have hT : L.take L.length = L := List.take_length
        rw [hT, HBB.out] at HR
        dsimp only at HR
        have HLF := Lib.hid (rdleft_any g ⟨zpad 128 b, b.length, 0⟩ wr HR.out)
        dsimp only at HLF
        have HCL := Lib.hid (rdclose_ok g (zpad 128 b) b.length wr HR.out (fun i h1 _ => zpad_zero b i h1))
        unfold RetN at HCL
        have hw1 : wrap64 (128 - (b.length : Int)) = 128 - (b.length : Int) := by rw [← i64_w]; exact IntWalk.i64_in _ (by omega)
        go_wp2_with (first
          | (go_at_call 22; go_must (refine HLF.out.mono ?_; rintro e w8 ⟨rfl, rfl⟩))
          | (go_at_call 23; go_must (refine HCL.out.mono ?_; rintro e w8 ⟨rfl, hb8⟩; have HB8 := Lib.hid (bnext HB6.out (bnext HB.out hb8)); clear hb8)))
        go_ret
        exact ⟨rfl, HB8.out⟩
  · rw [h1, show ((1 : Int) == 0) = false from rfl]
    clear hFS hd5 hws hcs
    go_region_held3 (fun w' => w'.rangeAt p3 0 cs) (first | exact hrd | exact range_below hrd hp5 ‹_›)
      (first
        | (go_at_call 18; go_must (refine HF.out.mono ?_; rintro e w6 ⟨rfl, hb6⟩)))
    go_wp2
    go_ret
    exact ⟨rfl, bnext HB5.out (Below.trans (Below.refl _ w5).drew (by exact hb6))⟩
end Go.Proofs.Ytdgmkjalnmpneaa
