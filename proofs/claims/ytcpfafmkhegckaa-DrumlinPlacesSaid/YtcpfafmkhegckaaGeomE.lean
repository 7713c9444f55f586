/-
  The superblock: the walk of the program's Read.
-/
import Derived.Test.YtcpfafmkhegckaaGeomD
namespace Go.Proofs.Ytcpfafmkhegckaa
open Go.RowKit
set_option linter.unusedVariables false
set_option linter.unusedSimpArgs false
def rdOk (l : List UInt8) : Bool := openB l && decide (openK l = 1) && decide ((openL l).length = 12)
def rdN (l : List UInt8) (j : Nat) : Nat := part (openL l) (4 * j) 4
def rdB (l : List UInt8) : Bool := rdOk l && gMay (rdN l 0) (rdN l 1) (rdN l 2)
def rdV (l : List UInt8) : Value := if rdB l then geomV (rdN l 0) (rdN l 1) (rdN l 2) else geomV 0 0 0
def rdE (l : List UInt8) : Int := if rdB l then 0 else 21
theorem rd_no {l : List UInt8} (h : rdB l = false) : rdV l = geomV 0 0 0 ∧ rdE l = 21 := by unfold rdV rdE; rw [h]; exact ⟨rfl, rfl⟩
theorem rd_yes {l : List UInt8} (h : rdB l = true) : rdV l = geomV (rdN l 0) (rdN l 1) (rdN l 2) ∧ rdE l = 0 := by unfold rdV rdE; rw [h]; exact ⟨rfl, rfl⟩
theorem size_geom : (Try.prog.info? 26).map (·.size) = some 3 := by kernel_rfl
theorem set_three {w : World} {p : Nat} {x y z : Value} {t : TypeId} {f : Nat × Nat} (h : w.heap[p]? = some (.cells #[x, y, z] t f)) (a b c : Value) :
    ((w.setCell ⟨p, 0, none⟩ a).setCell ⟨p, 1, none⟩ b).setCell ⟨p, 2, none⟩ c = w.setRow p #[a, b, c] := by
  rw [setCell_row h, setRow_setCell h, setRow_setCell h]; rfl
theorem gread_end {w w' : World} {l : List UInt8} {a b c : Value} {n : Int} (hT : w'.heap[w.heap.size + 1]? = some (.cells #[.int .i64 0, .int .i64 0, .int .i64 0] 26 (0, 0)))
    (h1 : Value.agg #[a, b, c] = rdV l) (h2 : n = rdE l) (hb : Below w.heap.size w w') {a' : Act} (hr : a'.tmps.getD 2 undef = .pointer (some ⟨w.heap.size + 1, 0, none⟩)) (h3 : a'.tmps.getD 3 undef = .int .i64 n) (hd : a'.defers = []) :
    bodyPost Try.prog Try.f17 (fun e w' => e = .returned (.tuple #[rdV l, .int .i64 (rdE l)]) ∧ Below w.heap.size w w') .ret a' (w'.setRow (w.heap.size + 1) #[a, b, c]) := by
  have hld := run_loadVar_row (P := Try.prog) (w'.setRow (w.heap.size + 1) #[a, b, c]) (w.heap.size + 1) 26 26 #[a, b, c] (0, 0) _ (setRow_heap _ _ _ _ _ _ hT) Try.underlying26 (by simp) size_geom
  refine bodyPost_ret (v := .tuple #[.agg #[a, b, c], .int .i64 n]) (results_cell2 Try.results17 hr h3 hld) hd ⟨by rw [h1, h2], ?_⟩
  exact hb.trans ⟨rfl, rfl, rfl, by rw [setRow_size]; exact Nat.le_refl _, fun k hk => setRow_other _ _ _ _ (by omega)⟩
set_option maxHeartbeats 1000000 in
set_option maxRecDepth 10000 in
theorem gread_any (l : List UInt8) (w : World) (hl : l.length = 128) :
    Calls Try.prog 17 #[secV l] w fun e w' => e = .returned (.tuple #[rdV l, .int .i64 (rdE l)]) ∧ Below w.heap.size w w' := by
  have HL := Lib.hid hl
  have hmf : ∀ (fn : Fn) (first cap : Array Value) (w : World), (Instr.makeFunc fn first cap).run Try.prog w = .ok (.func fn first cap) w := fun _ _ _ _ => rfl
  have HSZ : Hid ((bvs l).toArray.size = 128) := by unfold Hid; rw [secV_size, hl]
  have hop := fun w' => open_any l w' hl
  obtain ⟨k, hk⟩ : ∃ k, k = openK l := ⟨_, rfl⟩
  obtain ⟨b, hb⟩ : ∃ b, b = openL l := ⟨_, rfl⟩
  obtain ⟨oe, hoe⟩ : ∃ oe, oe = openE l := ⟨_, rfl⟩
  rw [← hk, ← hb, ← hoe] at hop
  have HOP := fun w' => Lib.hid (hop w')
  have HK := Lib.hid hk
  have HBD := Lib.hid hb
  have HOE := Lib.hid hoe
  clear hop hk hb hoe hl
  unfold secV at HOP ⊢
  go_enter Try.func17, Try.ntmps17
  have hg1 := heap_alloc_last w (.cells (bvs l).toArray 36 (0, 0))
  have HG1 := Lib.hid hg1
  clear hg1
  go_upto_region 1 with fail
  have hT2 := heap_alloc_last (w.alloc (.cells (bvs l).toArray 36 (0, 0))) (.cells #[.int .i64 0, .int .i64 0, .int .i64 0] 26 (0, 0))
  have hs1 : (w.alloc (.cells (bvs l).toArray 36 (0, 0))).heap.size = w.heap.size + 1 := by simp
  rw [hs1] at hT2
  have hg2 := heap_keep HG1.out ((Below.refl _ _).alloc (Nat.le_refl _) (.cells #[.int .i64 0, .int .i64 0, .int .i64 0] 26 (0, 0)))
  have hb2 : Below w.heap.size w ((w.alloc (.cells (bvs l).toArray 36 (0, 0))).alloc (.cells #[.int .i64 0, .int .i64 0, .int .i64 0] 26 (0, 0))) := ((Below.refl _ _).alloc (Nat.le_refl _) _).alloc (by simp) _
  revert hT2 hg2 hb2
  clear HG1 hs1
  generalize (w.alloc (.cells (bvs l).toArray 36 (0, 0))).alloc (.cells #[.int .i64 0, .int .i64 0, .int .i64 0] 26 (0, 0)) = w2
  intro hT2 hg2 hb2
  have HT2 := Lib.hid hT2
  have HG2 := Lib.hid hg2
  have HB2 := Lib.hid hb2
  clear hT2 hg2 hb2
  go_upto_region 2 with (first
    | (refine wpList_load_row rfl 36 (.tmp 1) rfl w.heap.size rfl _ _ _ _ HG2.out Try.underlying36 rfl (by rw [HSZ.out]; exact size_sec) ?_)
    | (go_at_call 58; refine (HOP _).out.mono ?_; rintro e w3 ⟨v, rfl, ho3, hb3⟩; obtain ⟨sp, cp, rfl⟩ : ∃ sp cp, v = .slice sp b.length cp := by { rcases (own_byt ho3).1 with ⟨h', A, c, h, _⟩ | ⟨b', o, c, h, _⟩; exact ⟨A, c, by rw [h, h']; rfl⟩; exact ⟨_, c, h⟩ }; have HO3 := Lib.hid (own_byt ho3).1; have HT3 := Lib.hid (heap_keep HT2.out hb3); have HB3 := Lib.hid (bnext HB2.out hb3); clear ho3 hb3))
  have c5 : (w3.alloc (.cells #[.slice sp b.length cp] 118 (0, 0))).cell? ⟨w3.heap.size, 0, none⟩ = some (.slice sp b.length cp) := by rw [cell_row (heap_alloc_last w3 _)]; rfl
  have hb4 : Below w3.heap.size w3 (w3.alloc (.cells #[.slice sp b.length cp] 118 (0, 0))) := (Below.refl _ _).alloc (Nat.le_refl _) _
  have HO4 := Lib.hid (HO3.out.below hb4)
  have HT4 := Lib.hid (heap_keep HT3.out hb4)
  have HB4 := Lib.hid (bnext HB3.out hb4)
  have hg3 : w3.heap.size < (w3.alloc (.cells #[.slice sp b.length cp] 118 (0, 0))).heap.size := by simp
  have HG3 := Lib.hid hg3
  clear hb4 HO3 HT3 HB3 HG2 HT2 HB2 HOP hg3
  revert c5 HO4 HT4 HB4 HG3
  generalize w3.alloc (.cells #[.slice sp b.length cp] 118 (0, 0)) = w4
  generalize w3.heap.size = g5
  intro c5 HO4 HT4 HB4 HG3
  have c20 : w4.cell? ⟨w.heap.size + 1, 0, none⟩ = some (.int .i64 0) := by rw [cell_row HT4.out]; rfl
  have c21 : w4.cell? ⟨w.heap.size + 1, 1, none⟩ = some (.int .i64 0) := by rw [cell_row HT4.out]; rfl
  have c22 : w4.cell? ⟨w.heap.size + 1, 2, none⟩ = some (.int .i64 0) := by rw [cell_row HT4.out]; rfl
  have f20 : w4.frozen? ⟨w.heap.size + 1, 0, none⟩ = false := free_row HT4.out _
  have f21 : w4.frozen? ⟨w.heap.size + 1, 1, none⟩ = false := free_row HT4.out _
  have f22 : w4.frozen? ⟨w.heap.size + 1, 2, none⟩ = false := free_row HT4.out _
  have hbl : b.length ≤ 255 := by
    rw [HBD.out]
    unfold openL
    split
    · unfold bodyOf; rw [List.length_take]; have := (l.getD 3 0).toNat_lt; omega
    · simp
  cases ho : openB l with
  | false =>
    have hbad : rdB l = false := by unfold rdB rdOk; rw [ho]; rfl
    have HBAD := Lib.hid hbad
    obtain rfl : oe = 21 := by rw [HOE.out]; unfold openE; rw [ho]; rfl
    clear hbad
    go_wp2
    rw [set_three HT4.out]
    exact gread_end HT4.out (rd_no HBAD.out).1.symm (rd_no HBAD.out).2.symm HB4.out rfl rfl rfl
  | true =>
    obtain rfl : oe = 0 := by rw [HOE.out]; unfold openE; rw [ho]; rfl
    by_cases hk1 : k = 1
    · subst hk1
      by_cases h12 : b.length = 12
      · have hok : rdOk l = true := by unfold rdOk; rw [ho, ← HK.out, ← HBD.out, decide_eq_true h12]; rfl
        have h12' : (b.length : Int) = 12 := by omega
        have hq0 := rpart_any g5 0 (.slice sp b.length cp) b w4 (by decide) h12 c5 HO4.out
        have hq1 := rpart_any g5 1 (.slice sp b.length cp) b w4 (by decide) h12 c5 HO4.out
        have hq2 := rpart_any g5 2 (.slice sp b.length cp) b w4 (by decide) h12 c5 HO4.out
        obtain ⟨n0, hn0⟩ : ∃ n0, n0 = rdN l 0 := ⟨_, rfl⟩
        obtain ⟨n1, hn1⟩ : ∃ n1, n1 = rdN l 1 := ⟨_, rfl⟩
        obtain ⟨n2, hn2⟩ : ∃ n2, n2 = rdN l 2 := ⟨_, rfl⟩
        have e0 : part b (4 * 0) 4 = n0 := by rw [hn0, HBD.out]; rfl
        have e1 : part b (4 * 1) 4 = n1 := by rw [hn1, HBD.out]; rfl
        have e2 : part b (4 * 2) 4 = n2 := by rw [hn2, HBD.out]; rfl
        rw [e0] at hq0
        rw [e1] at hq1
        rw [e2] at hq2
        have HQ0 : Hid (Calls Try.prog 59 #[.int .i64 0, .pointer (some ⟨g5, 0, none⟩)] w4 fun e w' => e = .returned (.int .i64 (n0 : Int)) ∧ w4 = w') := hq0
        have HQ1 : Hid (Calls Try.prog 59 #[.int .i64 1, .pointer (some ⟨g5, 0, none⟩)] w4 fun e w' => e = .returned (.int .i64 (n1 : Int)) ∧ w4 = w') := hq1
        have HQ2 : Hid (Calls Try.prog 59 #[.int .i64 2, .pointer (some ⟨g5, 0, none⟩)] w4 fun e w' => e = .returned (.int .i64 (n2 : Int)) ∧ w4 = w') := hq2
        have hrb : rdB l = gMay n0 n1 n2 := by unfold rdB; rw [hok, Bool.true_and, hn0, hn1, hn2]
        have HRB := Lib.hid hrb
        have HN : Hid (n0 = rdN l 0 ∧ n1 = rdN l 1 ∧ n2 = rdN l 2) := ⟨hn0, hn1, hn2⟩
        have HCK := fun w' => Lib.hid (check_any n0 n1 n2 w')
        obtain ⟨ge, hge⟩ : ∃ ge, ge = gE n0 n1 n2 := ⟨_, rfl⟩
        rw [← hge] at HCK
        have HGE := Lib.hid hge
        clear hok hq0 hq1 hq2 hn0 hn1 hn2 e0 e1 e2 hrb hge h12
        unfold geomV at HCK
        go_upto_region 6 with (first
          | (have q := d2; clear q; go_at_call 59; refine HQ2.out.mono ?_; rintro e wq ⟨rfl, rfl⟩)
          | (have q := d1; clear q; go_at_call 59; refine HQ1.out.mono ?_; rintro e wq ⟨rfl, rfl⟩; have d2 : True := trivial)
          | (go_at_call 59; refine HQ0.out.mono ?_; rintro e wq ⟨rfl, rfl⟩; have d1 : True := trivial))
        have h8 := heap_alloc_last w4 (.cells #[.int .i64 (n0 : Int), .int .i64 (n1 : Int), .int .i64 (n2 : Int)] 26 (0, 0))
        have hb5 : Below w4.heap.size w4 (w4.alloc (.cells #[.int .i64 (n0 : Int), .int .i64 (n1 : Int), .int .i64 (n2 : Int)] 26 (0, 0))) := (Below.refl _ _).alloc (Nat.le_refl _) _
        have hT5 := heap_keep HT4.out hb5
        have hB5 := bnext HB4.out hb5
        clear c20 c21 c22 f20 f21 f22 hb5 HQ0 HQ1 HQ2
        revert h8 hT5 hB5
        generalize w4.alloc (.cells #[.int .i64 (n0 : Int), .int .i64 (n1 : Int), .int .i64 (n2 : Int)] 26 (0, 0)) = w5
        generalize w4.heap.size = g8
        intro h8 hT5 hB5
        have c80 : w5.cell? ⟨g8, 0, none⟩ = some (.int .i64 (n0 : Int)) := by rw [cell_row h8]; rfl
        have c81 : w5.cell? ⟨g8, 1, none⟩ = some (.int .i64 (n1 : Int)) := by rw [cell_row h8]; rfl
        have c82 : w5.cell? ⟨g8, 2, none⟩ = some (.int .i64 (n2 : Int)) := by rw [cell_row h8]; rfl
        have H8 := Lib.hid h8
        have HT5 := Lib.hid hT5
        have HB5 := Lib.hid hB5
        clear h8 hT5 hB5 c5
        go_upto_if 37 with (go_at_call 61; refine (HCK _).out.mono ?_; rintro e w6 ⟨rfl, hb6⟩; have H86 := heap_keep H8.out hb6; have HT6 := Lib.hid (heap_keep HT5.out hb6); have HB6 := Lib.hid (bnext HB5.out hb6); clear hb6)
        have c90 : w6.cell? ⟨g8, 0, none⟩ = some (.int .i64 (n0 : Int)) := by rw [cell_row H86]; rfl
        have c91 : w6.cell? ⟨g8, 1, none⟩ = some (.int .i64 (n1 : Int)) := by rw [cell_row H86]; rfl
        have c92 : w6.cell? ⟨g8, 2, none⟩ = some (.int .i64 (n2 : Int)) := by rw [cell_row H86]; rfl
        have c20 : w6.cell? ⟨w.heap.size + 1, 0, none⟩ = some (.int .i64 0) := by rw [cell_row HT6.out]; rfl
        have c21 : w6.cell? ⟨w.heap.size + 1, 1, none⟩ = some (.int .i64 0) := by rw [cell_row HT6.out]; rfl
        have c22 : w6.cell? ⟨w.heap.size + 1, 2, none⟩ = some (.int .i64 0) := by rw [cell_row HT6.out]; rfl
        have f20 : w6.frozen? ⟨w.heap.size + 1, 0, none⟩ = false := free_row HT6.out _
        have f21 : w6.frozen? ⟨w.heap.size + 1, 1, none⟩ = false := free_row HT6.out _
        have f22 : w6.frozen? ⟨w.heap.size + 1, 2, none⟩ = false := free_row HT6.out _
        clear c80 c81 c82 H86 H8 HT5 HB5
        cases hgm : gMay n0 n1 n2 with
        | true =>
          obtain rfl : ge = 0 := by rw [HGE.out]; unfold gE; rw [hgm]; rfl
          have hy := rd_yes (l := l) (by rw [HRB.out]; exact hgm)
          have HY := Lib.hid hy
          clear hy
          go_wp2
          rw [set_three HT6.out]
          refine gread_end HT6.out ?_ HY.out.2.symm HB6.out rfl rfl rfl
          rw [HY.out.1, ← HN.out.1, ← HN.out.2.1, ← HN.out.2.2]; rfl
        | false =>
          obtain rfl : ge = 1 := by rw [HGE.out]; unfold gE; rw [hgm]; rfl
          have hy := rd_no (l := l) (by rw [HRB.out]; exact hgm)
          have HY := Lib.hid hy
          clear hy
          go_wp2
          rw [set_three HT6.out]
          exact gread_end HT6.out HY.out.1.symm HY.out.2.symm HB6.out rfl rfl rfl
      · have hbad : rdB l = false := by unfold rdB rdOk; rw [← HBD.out, decide_eq_false h12]; simp
        have HBAD := Lib.hid hbad
        have h12' : ((b.length : Int) != 12) = true := by simp; omega
        clear hbad h12
        go_wp2
        rw [set_three HT4.out]
        exact gread_end HT4.out (rd_no HBAD.out).1.symm (rd_no HBAD.out).2.symm HB4.out rfl rfl rfl
    · have hbad : rdB l = false := by unfold rdB rdOk; rw [← HK.out, decide_eq_false hk1]; simp
      have HBAD := Lib.hid hbad
      have hk1' : ((k.toNat : Int) != 1) = true := by
        simp only [bne_iff_ne, ne_eq]
        intro h; exact hk1 (UInt8.toNat_inj.1 (by have : k.toNat = 1 := by omega
                                                  rw [this]; rfl))
      clear hbad hk1
      go_wp2
      rw [set_three HT4.out]
      exact gread_end HT4.out (rd_no HBAD.out).1.symm (rd_no HBAD.out).2.symm HB4.out rfl rfl rfl
end Go.Proofs.Ytcpfafmkhegckaa
