/-
  The superblock: the walk of the reference's Read.
-/
import Derived.Test.YteepgdfjbpfakaaGeomF
namespace Go.Proofs.Yteepgdfjbpfakaa
open Go.RowKit
set_option linter.unusedVariables false
set_option linter.unusedSimpArgs false
set_option maxHeartbeats 1000000 in
theorem rmay_out (s g i : Int) (w : World) (h : gIn s g i = false) : Calls Try.prog 10 #[geomV s g i] w (RetT w false) := by
  have hbox := (Below.refl w.heap.size w).alloc (Nat.le_refl _) (.cells #[.int .i64 s, .int .i64 g, .int .i64 i] 23 (0, 0))
  unfold geomV
  unfold gIn at h
  simp only [decide_eq_false_iff_not] at h
  have hcut : ∀ K : Prop, (¬ 8 ≤ s → K) → (8 ≤ s → ¬ s ≤ 200 → K) → (8 ≤ s → s ≤ 200 → ¬ 1 ≤ g → K) → (8 ≤ s → s ≤ 200 → 1 ≤ g → ¬ g ≤ 32 → K) → (8 ≤ s → s ≤ 200 → 1 ≤ g → g ≤ 32 → ¬ 2 ≤ i → K) → (8 ≤ s → s ≤ 200 → 1 ≤ g → g ≤ 32 → 2 ≤ i → ¬ i ≤ 200 → K) → K := fun K a b c d e f => by
    by_cases h1 : 8 ≤ s
    · by_cases h2 : s ≤ 200
      · by_cases h3 : 1 ≤ g
        · by_cases h4 : g ≤ 32
          · by_cases h5 : 2 ≤ i
            · exact f h1 h2 h3 h4 h5 (by omega)
            · exact e h1 h2 h3 h4 h5
          · exact d h1 h2 h3 h4
        · exact c h1 h2 h3
      · exact b h1 h2
    · exact a h1
  clear h
  refine hcut _ ?_ ?_ ?_ ?_ ?_ ?_ <;> clear hcut <;> intros
  all_goals
    go_enter Try.func10, Try.ntmps10
    go_wp2
    go_ret
    exact ⟨rfl, hbox⟩
theorem rmay_any (s g i : Nat) (w : World) : Calls Try.prog 10 #[geomV s g i] w (RetT w (gMay s g i)) := by
  cases h : gIn s g i with
  | false =>
    have e : gMay s g i = false := by unfold gMay; rw [h]; rfl
    rw [e]; exact rmay_out s g i w h
  | true =>
    have e : gMay s g i = decide (8 ≤ gRoom s g i) := by unfold gMay; rw [h]; simp
    rw [e]; exact rmay_in s g i w h
theorem size_rgeom : (Try.prog.info? 23).map (·.size) = some 3 := by kernel_rfl
theorem rread_end {w w' : World} {l : List UInt8} {a b c : Value} {n : Bool} (hT : w'.heap[w.heap.size + 1]? = some (.cells #[.int .i64 0, .int .i64 0, .int .i64 0] 23 (0, 0)))
    (h1 : Value.agg #[a, b, c] = rdV l) (h2 : n = rdB l) (hb : Below w.heap.size w w') {a' : Act} (hr : a'.tmps.getD 2 undef = .pointer (some ⟨w.heap.size + 1, 0, none⟩)) (h3 : a'.tmps.getD 3 undef = .bool n) (hd : a'.defers = []) :
    bodyPost Try.prog Try.f34 (fun e w' => e = .returned (.tuple #[rdV l, .bool (rdB l)]) ∧ Below w.heap.size w w') .ret a' (w'.setRow (w.heap.size + 1) #[a, b, c]) := by
  have hld := run_loadVar_row (P := Try.prog) (w'.setRow (w.heap.size + 1) #[a, b, c]) (w.heap.size + 1) 23 23 #[a, b, c] (0, 0) _ (setRow_heap _ _ _ _ _ _ hT) Try.underlying23 (by simp) size_rgeom
  refine bodyPost_ret (v := .tuple #[.agg #[a, b, c], .bool n]) (results_cell2 Try.results34 hr h3 hld) hd ⟨by rw [h1, h2], ?_⟩
  exact hb.trans ⟨rfl, rfl, rfl, by rw [setRow_size]; exact Nat.le_refl _, fun k hk => setRow_other _ _ _ _ (by omega)⟩
set_option maxHeartbeats 2000000 in
set_option maxRecDepth 10000 in
theorem rread_any (l : List UInt8) (w : World) (hl : l.length = 128) :
    Calls Try.prog 34 #[secV l] w fun e w' => e = .returned (.tuple #[rdV l, .bool (rdB l)]) ∧ Below w.heap.size w w' := by
  have HL := Lib.hid hl
  have HSZ : Hid ((bvs l).toArray.size = 128) := by unfold Hid; rw [secV_size, hl]
  have hop := fun w' => ropen_any l w' hl
  obtain ⟨k, hk⟩ : ∃ k, k = openK l := ⟨_, rfl⟩
  obtain ⟨b, hb⟩ : ∃ b, b = openL l := ⟨_, rfl⟩
  obtain ⟨oe, hoe⟩ : ∃ oe, oe = openB l := ⟨_, rfl⟩
  rw [← hk, ← hb, ← hoe] at hop
  have HOP := fun w' => Lib.hid (hop w')
  have HK := Lib.hid hk
  have HBD := Lib.hid hb
  have HOE := Lib.hid hoe
  clear hop hk hb hoe hl
  unfold secV at HOP ⊢
  go_enter Try.func34, Try.ntmps34
  have hg1 := heap_alloc_last w (.cells (bvs l).toArray 46 (0, 0))
  have HG1 := Lib.hid hg1
  clear hg1
  go_upto_region 1 with fail
  have hT2 := heap_alloc_last (w.alloc (.cells (bvs l).toArray 46 (0, 0))) (.cells #[.int .i64 0, .int .i64 0, .int .i64 0] 23 (0, 0))
  have hs1 : (w.alloc (.cells (bvs l).toArray 46 (0, 0))).heap.size = w.heap.size + 1 := by simp
  rw [hs1] at hT2
  have hg2 := heap_keep HG1.out ((Below.refl _ _).alloc (Nat.le_refl _) (.cells #[.int .i64 0, .int .i64 0, .int .i64 0] 23 (0, 0)))
  have hb2 : Below w.heap.size w ((w.alloc (.cells (bvs l).toArray 46 (0, 0))).alloc (.cells #[.int .i64 0, .int .i64 0, .int .i64 0] 23 (0, 0))) := ((Below.refl _ _).alloc (Nat.le_refl _) _).alloc (by simp) _
  revert hT2 hg2 hb2
  clear HG1 hs1
  generalize (w.alloc (.cells (bvs l).toArray 46 (0, 0))).alloc (.cells #[.int .i64 0, .int .i64 0, .int .i64 0] 23 (0, 0)) = w2
  intro hT2 hg2 hb2
  have HT2 := Lib.hid hT2
  have HG2 := Lib.hid hg2
  have HB2 := Lib.hid hb2
  clear hT2 hg2 hb2
  go_upto_region 2 with (first
    | (refine wpList_load_row rfl 46 (.tmp 1) rfl w.heap.size rfl _ _ _ _ HG2.out Try.underlying46 rfl (by rw [HSZ.out]; exact size_arr) ?_)
    | (go_at_call 48; refine (HOP _).out.mono ?_; rintro e w4 ⟨v, rfl, ho3, hb3⟩; obtain ⟨sp, cp, rfl⟩ : ∃ sp cp, v = .slice sp b.length cp := by { rcases (own_byt ho3).1 with ⟨h', A, c, h, _⟩ | ⟨b', o, c, h, _⟩; exact ⟨A, c, by rw [h, h']; rfl⟩; exact ⟨_, c, h⟩ }; have HO4 := Lib.hid (own_byt ho3).1; have HT4 := Lib.hid (heap_keep HT2.out hb3); have HB4 := Lib.hid (bnext HB2.out hb3); clear ho3 hb3))
  clear HG2 HT2 HB2 HOP
  have c20 : w4.cell? ⟨w.heap.size + 1, 0, none⟩ = some (.int .i64 0) := by rw [cell_row HT4.out]; rfl
  have c21 : w4.cell? ⟨w.heap.size + 1, 1, none⟩ = some (.int .i64 0) := by rw [cell_row HT4.out]; rfl
  have c22 : w4.cell? ⟨w.heap.size + 1, 2, none⟩ = some (.int .i64 0) := by rw [cell_row HT4.out]; rfl
  have f20 : w4.frozen? ⟨w.heap.size + 1, 0, none⟩ = false := free_row HT4.out _
  have f21 : w4.frozen? ⟨w.heap.size + 1, 1, none⟩ = false := free_row HT4.out _
  have f22 : w4.frozen? ⟨w.heap.size + 1, 2, none⟩ = false := free_row HT4.out _
  have hbl : b.length ≤ 255 := by
    rw [HBD.out]
    unfold openL
    split
    · unfold bodyOf; rw [List.length_take]; have := (l.getD 3 0).toNat_lt; omega
    · simp
  cases ho : openB l with
  | false =>
    have hbad : rdB l = false := by unfold rdB rdOk; rw [ho]; rfl
    have HBAD := Lib.hid hbad
    obtain rfl : oe = false := by rw [HOE.out]; exact ho
    clear hbad
    go_wp2
    rw [set_three HT4.out]
    exact rread_end HT4.out (rd_no HBAD.out).1.symm HBAD.out.symm HB4.out rfl rfl rfl
  | true =>
    obtain rfl : oe = true := by rw [HOE.out]; exact ho
    by_cases hk1 : k = 1
    · subst hk1
      by_cases h12 : b.length = 12
      · have hok : rdOk l = true := by unfold rdOk; rw [ho, ← HK.out, ← HBD.out, decide_eq_true h12]; rfl
        have h12' : (b.length : Int) = 12 := by omega
        have hsp : ∃ bk o, sp = some ⟨bk, o, none⟩ ∧ 12 ≤ cp ∧ RdB w4 bk o b := by
          rcases HO4.out with ⟨h', _⟩ | ⟨bk, o, c', he, h2, h3, h4⟩
          · rw [h'] at h12; simp at h12
          · injection he with e1 e2 e3; subst e1; subst e3
            exact ⟨bk, o, rfl, by omega, h4⟩
        obtain ⟨bk, o, rfl, hcp, hrd⟩ := hsp
        obtain ⟨n0, hn0⟩ : ∃ n0, n0 = rdN l 0 := ⟨_, rfl⟩
        obtain ⟨n1, hn1⟩ : ∃ n1, n1 = rdN l 1 := ⟨_, rfl⟩
        obtain ⟨n2, hn2⟩ : ∃ n2, n2 = rdN l 2 := ⟨_, rfl⟩
        have HQ : Hid (∀ W, RdB W bk o b → Calls Try.prog 49 #[.slice (some ⟨bk, o, none⟩) 4 cp] W (fun e w' => e = .returned (.int .u64 (n0 : Int)) ∧ W = w') ∧
            Calls Try.prog 49 #[.slice (some ⟨bk, o + 4, none⟩) 4 (cp - 4)] W (fun e w' => e = .returned (.int .u64 (n1 : Int)) ∧ W = w') ∧
            Calls Try.prog 49 #[.slice (some ⟨bk, o + 8, none⟩) (b.length - 8) (cp - 8)] W (fun e w' => e = .returned (.int .u64 (n2 : Int)) ∧ W = w')) := fun W hW => by
          have hl0 : ((b.drop (4 * 0)).take 4).length = 4 := by simp; omega
          have hl1 : ((b.drop (4 * 1)).take 4).length = 4 := by simp; omega
          have hl2 : ((b.drop (4 * 2)).take 4).length = 4 := by simp; omega
          have q0 := rnum_some bk (o + 4 * 0) cp ((b.drop (4 * 0)).take 4) W (by omega) (hW.sub (4 * 0) 4 (by omega))
          have q1 := rnum_some bk (o + 4 * 1) (cp - 4) ((b.drop (4 * 1)).take 4) W (by omega) (hW.sub (4 * 1) 4 (by omega))
          have q2 := rnum_some bk (o + 4 * 2) (cp - 8) ((b.drop (4 * 2)).take 4) W (by omega) (hW.sub (4 * 2) 4 (by omega))
          have e0 : leNat ((b.drop (4 * 0)).take 4) = n0 := by rw [hn0, HBD.out]; rfl
          have e1 : leNat ((b.drop (4 * 1)).take 4) = n1 := by rw [hn1, HBD.out]; rfl
          have e2 : leNat ((b.drop (4 * 2)).take 4) = n2 := by rw [hn2, HBD.out]; rfl
          rw [hl0, e0] at q0
          rw [hl1, e1] at q1
          rw [hl2, e2] at q2
          refine ⟨q0, q1, ?_⟩
          rw [show b.length - 8 = 4 by omega]
          exact q2
        have hx : n0 < 4294967296 ∧ n1 < 4294967296 ∧ n2 < 4294967296 := by
          rw [hn0, hn1, hn2]
          exact ⟨by have := part_lt (openL l) (4 * 0) 4; simpa [rdN] using this, by have := part_lt (openL l) (4 * 1) 4; simpa [rdN] using this, by have := part_lt (openL l) (4 * 2) 4; simpa [rdN] using this⟩
        have hw0 : IntKind.i64.wrap (n0 : Int) = (n0 : Int) := IntWalk.i64_in _ (by omega)
        have hw1 : IntKind.i64.wrap (n1 : Int) = (n1 : Int) := IntWalk.i64_in _ (by omega)
        have hw2 : IntKind.i64.wrap (n2 : Int) = (n2 : Int) := IntWalk.i64_in _ (by omega)
        have hrX : RdB w4.drew bk o b := hrd
        have hrY : RdB (w4.drew.alloc (.cells #[.int .i64 0, .int .i64 0, .int .i64 0] 23 (0, 0))) bk o b := hrX.below ((Below.refl _ _).alloc (Nat.le_refl _) _)
        have HX := Lib.hid (HQ.out _ hrX)
        have HY := Lib.hid (HQ.out _ hrY)
        have HZ := Lib.hid (HQ.out ((w4.alloc (.cells #[.int .i64 0, .int .i64 0, .int .i64 0] 23 (0, 0))).drew) hrY)
        have hrb : rdB l = gMay n0 n1 n2 := by unfold rdB; rw [hok, Bool.true_and, hn0, hn1, hn2]
        have HRB := Lib.hid hrb
        have HN : Hid (n0 = rdN l 0 ∧ n1 = rdN l 1 ∧ n2 = rdN l 2) := ⟨hn0, hn1, hn2⟩
        have HCK := fun w' => Lib.hid (rmay_any n0 n1 n2 w')
        obtain ⟨ge, hge⟩ : ∃ ge, ge = gMay n0 n1 n2 := ⟨_, rfl⟩
        rw [← hge] at HCK HRB
        clear hok hn0 hn1 hn2 hrb h12 hrX hrY hrd hx HQ hge
        unfold geomV at HCK
        have hc4 : ¬ cp = 4 := by omega
        have hc8 : ¬ cp = 8 := by omega
        have hz8 : (8 : Int) ≤ (cp : Int) := by omega
        have hz4 : (4 : Int) ≤ (cp : Int) := by omega
        go_upto_region 4 with fail
        go_region_held3 (fun _ => True) (exact trivial)
          (first
            | (go_at_call 49; with_reducible refine HX.out.1.mono ?_; rintro e wq ⟨rfl, rfl⟩)
            | (go_at_call 49; with_reducible refine HX.out.2.1.mono ?_; rintro e wq ⟨rfl, rfl⟩)
            | (go_at_call 49; with_reducible refine HX.out.2.2.mono ?_; rintro e wq ⟨rfl, rfl⟩)
            | (go_at_call 49; with_reducible refine HY.out.1.mono ?_; rintro e wq ⟨rfl, rfl⟩)
            | (go_at_call 49; with_reducible refine HY.out.2.1.mono ?_; rintro e wq ⟨rfl, rfl⟩)
            | (go_at_call 49; with_reducible refine HY.out.2.2.mono ?_; rintro e wq ⟨rfl, rfl⟩)
            | (go_at_call 49; with_reducible refine HZ.out.1.mono ?_; rintro e wq ⟨rfl, rfl⟩)
            | (go_at_call 49; with_reducible refine HZ.out.2.1.mono ?_; rintro e wq ⟨rfl, rfl⟩)
            | (go_at_call 49; with_reducible refine HZ.out.2.2.mono ?_; rintro e wq ⟨rfl, rfl⟩))
        all_goals
          have hc : w4.drew.alloc (.cells #[.int .i64 (n0 : Int), .int .i64 (n1 : Int), .int .i64 (n2 : Int)] 23 (0, 0)) = (w4.alloc (.cells #[.int .i64 (n0 : Int), .int .i64 (n1 : Int), .int .i64 (n2 : Int)] 23 (0, 0))).drew := rfl
          try rw [hc]
          clear hc
          have h8 : (w4.alloc (.cells #[.int .i64 (n0 : Int), .int .i64 (n1 : Int), .int .i64 (n2 : Int)] 23 (0, 0))).drew.heap[w4.heap.size]? = some (.cells #[.int .i64 (n0 : Int), .int .i64 (n1 : Int), .int .i64 (n2 : Int)] 23 (0, 0)) := heap_alloc_last w4 _
          have hb5 : Below w4.heap.size w4 (w4.alloc (.cells #[.int .i64 (n0 : Int), .int .i64 (n1 : Int), .int .i64 (n2 : Int)] 23 (0, 0))).drew := ((Below.refl _ _).alloc (Nat.le_refl _) _).drew
          have hT5 := heap_keep HT4.out hb5
          have hB5 := bnext HB4.out hb5
          clear c20 c21 c22 f20 f21 f22 hb5 HX HY HZ hw0 hw1 hw2
          revert h8 hT5 hB5
          generalize (w4.alloc (.cells #[.int .i64 (n0 : Int), .int .i64 (n1 : Int), .int .i64 (n2 : Int)] 23 (0, 0))).drew = w5
          generalize w4.heap.size = g8
          intro h8 hT5 hB5
          have c80 : w5.cell? ⟨g8, 0, none⟩ = some (.int .i64 (n0 : Int)) := by rw [cell_row h8]; rfl
          have c81 : w5.cell? ⟨g8, 1, none⟩ = some (.int .i64 (n1 : Int)) := by rw [cell_row h8]; rfl
          have c82 : w5.cell? ⟨g8, 2, none⟩ = some (.int .i64 (n2 : Int)) := by rw [cell_row h8]; rfl
          have H8 := Lib.hid h8
          have HT5 := Lib.hid hT5
          have HB5 := Lib.hid hB5
          clear h8 hT5 hB5
          go_upto_if 41 with (go_at_call 10; refine (HCK _).out.mono ?_; rintro e w6 ⟨rfl, hb6⟩; have H86 := heap_keep H8.out hb6; have HT6 := Lib.hid (heap_keep HT5.out hb6); have HB6 := Lib.hid (bnext HB5.out hb6); clear hb6)
          have c90 : w6.cell? ⟨g8, 0, none⟩ = some (.int .i64 (n0 : Int)) := by rw [cell_row H86]; rfl
          have c91 : w6.cell? ⟨g8, 1, none⟩ = some (.int .i64 (n1 : Int)) := by rw [cell_row H86]; rfl
          have c92 : w6.cell? ⟨g8, 2, none⟩ = some (.int .i64 (n2 : Int)) := by rw [cell_row H86]; rfl
          have c20 : w6.cell? ⟨w.heap.size + 1, 0, none⟩ = some (.int .i64 0) := by rw [cell_row HT6.out]; rfl
          have c21 : w6.cell? ⟨w.heap.size + 1, 1, none⟩ = some (.int .i64 0) := by rw [cell_row HT6.out]; rfl
          have c22 : w6.cell? ⟨w.heap.size + 1, 2, none⟩ = some (.int .i64 0) := by rw [cell_row HT6.out]; rfl
          have f20 : w6.frozen? ⟨w.heap.size + 1, 0, none⟩ = false := free_row HT6.out _
          have f21 : w6.frozen? ⟨w.heap.size + 1, 1, none⟩ = false := free_row HT6.out _
          have f22 : w6.frozen? ⟨w.heap.size + 1, 2, none⟩ = false := free_row HT6.out _
          clear c80 c81 c82 H86 H8 HT5 HB5
          cases ge with
          | true =>
            have hy := rd_yes (l := l) HRB.out
            have HY := Lib.hid hy
            clear hy
            go_wp2
            rw [set_three HT6.out]
            refine rread_end HT6.out ?_ HRB.out.symm HB6.out rfl rfl rfl
            rw [HY.out.1, ← HN.out.1, ← HN.out.2.1, ← HN.out.2.2]; rfl
          | false =>
            have hy := rd_no (l := l) HRB.out
            have HY := Lib.hid hy
            clear hy
            go_wp2
            rw [set_three HT6.out]
            exact rread_end HT6.out HY.out.1.symm HRB.out.symm HB6.out rfl rfl rfl
      · have hbad : rdB l = false := by unfold rdB rdOk; rw [← HBD.out, decide_eq_false h12]; simp
        have HBAD := Lib.hid hbad
        have h12' : ((b.length : Int) != 12) = true := by simp; omega
        clear hbad h12
        go_wp2
        rw [set_three HT4.out]
        exact rread_end HT4.out (rd_no HBAD.out).1.symm HBAD.out.symm HB4.out rfl rfl rfl
    · have hbad : rdB l = false := by unfold rdB rdOk; rw [← HK.out, decide_eq_false hk1]; simp
      have HBAD := Lib.hid hbad
      have hk1' : ((k.toNat : Int) != 1) = true := by
        simp only [bne_iff_ne, ne_eq]
        intro h; exact hk1 (UInt8.toNat_inj.1 (by have : k.toNat = 1 := by omega
                                                  rw [this]; rfl))
      clear hbad hk1
      go_wp2
      rw [set_three HT4.out]
      exact rread_end HT4.out (rd_no HBAD.out).1.symm HBAD.out.symm HB4.out rfl rfl rfl
end Go.Proofs.Yteepgdfjbpfakaa
