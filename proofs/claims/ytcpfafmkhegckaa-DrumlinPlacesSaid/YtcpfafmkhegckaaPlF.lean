/-
  DrumlinPlaces: the walk.
-/
import Derived.Test.YtcpfafmkhegckaaPlE
import Derived.Test.YtcpfafmkhegckaaGeomG
namespace Go.Proofs.Ytcpfafmkhegckaa
open Go.RowKit
set_option linter.unusedVariables false
set_option linter.unusedSimpArgs false
set_option linter.unnecessarySimpa false
def inF (n : Int) : List Value := [.int .i64 n]
theorem inF_len (n : Int) : (inF n).length = 1 := rfl
def supS (s g i : Nat) : Sc := ⟨sealS 1 (supB s g i), by rw [sealS_length]; rw [supB_length]; decide⟩
theorem sup_readP (s g i : Nat) (hs : s < 4294967296) (hg : g < 4294967296) (hi : i < 4294967296) (hm : gMay s g i = true) :
    rdV (sealS 1 (supB s g i)) = geomV s g i ∧ rdE (sealS 1 (supB s g i)) = 0 := by
  have hl : (supB s g i).length ≤ 120 := by rw [supB_length]; decide
  have hmb : mayB 1 (supB s g i) = true := (mayB_iff _ _).2 ⟨by decide, hl⟩
  have ho := open_seal 1 (supB s g i) hmb
  have hk : openK (sealS 1 (supB s g i)) = 1 := by unfold openK; rw [ho]; exact seal_at2 _ _
  have hL : openL (sealS 1 (supB s g i)) = supB s g i := by unfold openL; rw [ho]; exact bodyOf_seal _ _ hl
  have e0 : rdN (sealS 1 (supB s g i)) 0 = s := by
    unfold rdN; rw [hL]; unfold part supB
    rw [Nat.mul_zero, List.drop_zero, List.append_assoc, List.take_append_of_le_length (by simp), List.take_of_length_le (by simp)]
    exact leNat_le_of 4 s hs
  have e1 : rdN (sealS 1 (supB s g i)) 1 = g := by
    unfold rdN; rw [hL]; unfold part supB
    rw [Nat.mul_one, List.append_assoc, List.drop_append_of_le_length (by simp), List.drop_of_length_le (by simp), List.nil_append, List.take_append_of_le_length (by simp), List.take_of_length_le (by simp)]
    exact leNat_le_of 4 g hg
  have e2 : rdN (sealS 1 (supB s g i)) 2 = i := by
    unfold rdN; rw [hL]; unfold part supB
    rw [show 4 * 2 = (le 4 s ++ le 4 g).length by simp, List.drop_append_of_le_length (Nat.le_refl _), List.drop_of_length_le (Nat.le_refl _), List.nil_append, List.take_of_length_le (by simp)]
    exact leNat_le_of 4 i hi
  have hb : rdB (sealS 1 (supB s g i)) = true := by
    unfold rdB rdOk
    rw [ho, hk, hL, supB_length, e0, e1, e2, hm]; rfl
  obtain ⟨h1, h2⟩ := rd_yes hb
  rw [e0, e1, e2] at h1
  exact ⟨h1, h2⟩
theorem plD1_ok {s g i : Nat} {sup : Sc} (hN : 1 ≤ gSectors s g i) : DOk (writeD (dk0 (gSectors s g i)) 0 sup).1 1 := by
  have hm : mayE (dk0 (gSectors s g i)) 0 = 0 := by
    unfold mayE dk0
    simp
    omega
  have hw : writeD (dk0 (gSectors s g i)) 0 sup = ({ dk0 (gSectors s g i) with Q := [⟨0, sup⟩], arm := -1, deeds := 1 }, 0) := by
    unfold writeD
    rw [if_pos hm, calm_deed ⟨rfl, rfl⟩]
    rfl
  rw [hw]
  refine ⟨by show (-1 : Int) ≤ -1 ∧ (-1 : Int) ≤ _; decide, by show (0 : Int) ≤ 1 ∧ (1 : Int) ≤ ((1 : Nat) : Int); decide, Nat.le_refl 1, fun q hq => ?_⟩
  rw [List.mem_singleton] at hq
  subst hq
  refine ⟨by show (0 : Int) ≤ 0; decide, ?_⟩
  show (0 : Int) < ((List.replicate (gSectors s g i) sc0).length : Int)
  rw [List.length_replicate]
  omega
theorem DTo.baseP {w w' : World} {base p gS : Nat} {vq : Value} {D D' : Dk} {v : Value} {e : Ending} (h : DkAt w base p gS vq D) (hd : DTo w base p gS vq D' v e w') : Below base w w' := by
  obtain ⟨_, vq', h1, h2, h3⟩ := hd
  have hl := h.lt
  refine h2.below (fun k hk => ?_) ?_
  · rcases hk with e | e | e
    · rw [e]; exact h.bp
    · rw [e]; exact h.bS
    · exact (h.que.lt k e).1
  · exact Nat.le_of_lt (Nat.lt_of_le_of_lt h.bp hl.1)
/-- The number of a block. -/
theorem tm_ex (n : Int) (m : Nat) (hm : 1 ≤ m) (hm2 : m ≤ 1000) : ∃ t : Nat, t < m * 8 ∧ (wrap64 (n.tmod ((m : Int) * 8) + (m : Int) * 8)).tmod ((m : Int) * 8) = (t : Int) := by
  have h0 : (0 : Int) < (m : Int) * 8 := by omega
  have h1 := Int.tmod_lt_of_pos n h0
  have h2 := Int.tmod_lt_of_pos (-n) h0
  rw [Int.neg_tmod] at h2
  have hw : wrap64 (n.tmod ((m : Int) * 8) + (m : Int) * 8) = n.tmod ((m : Int) * 8) + (m : Int) * 8 := by
    generalize n.tmod ((m : Int) * 8) = r at h1 h2 ⊢
    unfold wrap64
    omega
  rw [hw]
  generalize n.tmod ((m : Int) * 8) = r at h1 h2 ⊢
  refine ⟨((r + (m : Int) * 8) % ((m : Int) * 8)).toNat, ?_, ?_⟩
  · have := Int.emod_lt_of_pos (r + (m : Int) * 8) h0
    omega
  · rw [Int.tmod_eq_emod_of_nonneg (by omega)]
    have := Int.emod_nonneg (r + (m : Int) * 8) (show (m : Int) * 8 ≠ 0 by omega)
    omega
def blN (s i t : Nat) : Nat := gFirst s i + t / 8 * 9 + 1 + t % 8
theorem bl_sum (s g i t : Nat) : gSum s g i (t / 8 / g) (t / 8 % g) + 1 + t % 8 = blN s i t := by
  have h := Nat.div_add_mod' (t / 8) g
  unfold gSum blN
  rw [h]
theorem bl_wh (s g i t : Nat) (ht : t < s * g * 8) : whOk s g i (blN s i t) = true ∧ whV s g i (blN s i t) = .tuple #[.int .i64 ((t / 8 / g : Nat) : Int), .int .i64 ((t / 8 % g : Nat) : Int), .int .i64 ((t % 8 : Nat) : Int), .bool true] := by
  have h1 : blN s i t - gFirst s i = t / 8 * 9 + 1 + t % 8 := by unfold blN; omega
  have h2 : (t / 8 * 9 + 1 + t % 8) % 9 = 1 + t % 8 := by omega
  have h3 : (t / 8 * 9 + 1 + t % 8) / 9 = t / 8 := by omega
  have hok : whOk s g i (blN s i t) = true := by
    unfold whOk
    rw [decide_eq_true_iff, h1, h2]
    refine ⟨by unfold blN; omega, by unfold blN gSectors; omega, by omega⟩
  refine ⟨hok, ?_⟩
  unfold whV
  rw [hok, if_pos rfl, h1, h2, h3, Nat.add_sub_cancel_left]
def scM (n : UInt8) : Sc := ⟨1 :: n :: List.replicate 126 0, by simp⟩
theorem scM_cells (n : UInt8) : Value.agg ((Try.zeroCells36.setIfInBounds 0 (.int .u8 1)).setIfInBounds 1 (.int .u8 (n.toNat : Int))) = secV (scM n).1 := by kernel_rfl
theorem mod_u8 (t : Nat) : (t : Int) % 256 = ((UInt8.ofNat (t % 256)).toNat : Int) := by
  simp
theorem scF_sec (s : Sc) : Value.agg (scF s).toArray = secV s.1 := rfl
/-- How things stand behind k blocks that were written. -/
structure PlW (w : World) (base s g i p gS p5 k : Nat) (vq : Value) (D : Dk) (wr : World) : Prop where
  disk : DkAt wr base p gS vq D
  pl : PlDk s g i (supS s g i) k D
  box : wr.heap[p5]? = some (.cells #[.int .i64 (s : Int), .int .i64 (g : Int), .int .i64 (i : Int)] 26 (0, 0))
  raw : wr.heap[w.heap.size]? = some (.cells #[.int .i64 (s : Int), .int .i64 (g : Int), .int .i64 (i : Int)] 23 (0, 0))
  below : Below w.heap.size w wr
  b5 : p5 < base
  b0 : w.heap.size < base
theorem PlW.below' {w wr W : World} {base s g i p gS p5 k : Nat} {vq : Value} {D : Dk} (h : PlW w base s g i p gS p5 k vq D wr) (hb : Below wr.heap.size wr W) : PlW w base s g i p gS p5 k vq D W :=
  ⟨h.disk.below hb, h.pl, old_heap h.box hb, old_heap h.raw hb, bnext h.below hb, h.b5, h.b0⟩
theorem PlW.drewN {w wr : World} {base s g i p gS p5 k : Nat} {vq : Value} {D : Dk} (h : PlW w base s g i p gS p5 k vq D wr) (n : Nat) : PlW w base s g i p gS p5 k vq D (wr.drewN n) :=
  h.below' (bdrewN (Below.refl _ _) n)
/-- How things stand behind the crash. -/
structure PlZ (w : World) (base s g i p gS p5 : Nat) (vq : Value) (D : Dk) (wr : World) : Prop where
  disk : DkAt wr base p gS vq D
  box : wr.heap[p5]? = some (.cells #[.int .i64 (s : Int), .int .i64 (g : Int), .int .i64 (i : Int)] 26 (0, 0))
  below : Below w.heap.size w wr
theorem PlZ.below' {w wr W : World} {base s g i p gS p5 : Nat} {vq : Value} {D : Dk} (h : PlZ w base s g i p gS p5 vq D wr) (hb : Below wr.heap.size wr W) : PlZ w base s g i p gS p5 vq D W :=
  ⟨h.disk.below hb, old_heap h.box hb, bnext h.below hb⟩
theorem PlW.crash {w wr we : World} {base s g i p gS p5 k : Nat} {vq v : Value} {D D' : Dk} {e : Ending} (h : PlW w base s g i p gS p5 k vq D wr) (hd : DTo wr base p gS vq D' v e we) : ∃ vq', PlZ w base s g i p gS p5 vq' D' we := by
  have hb := DTo.baseP h.disk hd
  obtain ⟨_, vq', hD, -, -⟩ := hd
  exact ⟨vq', hD, (hb.block p5 h.b5).trans h.box, h.below.trans (hb.mono (Nat.le_of_lt h.b0))⟩
theorem PlW.step {w wr we : World} {base s g i p gS p5 k : Nat} {vq v : Value} {D D' : Dk} {e : Ending} (h : PlW w base s g i p gS p5 k vq D wr) (hp : PlDk s g i (supS s g i) (k + 1) D') (hd : DTo wr base p gS vq D' v e we) : ∃ vq' D', PlW w base s g i p gS p5 (k + 1) vq' D' we := by
  have hb := DTo.baseP h.disk hd
  obtain ⟨_, vq', hD, -, -⟩ := hd
  exact ⟨vq', D', hD, hp, (hb.block p5 h.b5).trans h.box, (hb.block w.heap.size h.b0).trans h.raw, h.below.trans (hb.mono (Nat.le_of_lt h.b0)), h.b5, h.b0⟩
theorem eq_zero (W : World) : (Op.equalIn 10000 36 (.agg zArr) (.agg Try.zeroCells36)).run Try.prog W = .ok true W := by
  obtain ⟨i, hi⟩ := Option.isSome_iff_exists.1 (show (Try.prog.info? 5).isSome = true by kernel_rfl)
  have h := equal_sec (P := Try.prog) Try.underlying36 hi (by kernel_rfl) (by kernel_rfl) Try.underlying5 W (List.replicate 128 0) (List.replicate 128 0) (by simp) (by simp)
  have e : Value.agg Try.zeroCells36 = secV (List.replicate 128 0) := by kernel_rfl
  rw [e, zArr_sec, h]
  simp
set_option maxRecDepth 100000 in
set_option maxHeartbeats 16000000 in
theorem drumlinPlaces_walk (x y z : Int) (hx : -9223372036854775808 ≤ x ∧ x ≤ 9223372036854775807) (hy : -9223372036854775808 ≤ y ∧ y ≤ 9223372036854775807) (A : Option Addr) (c : Nat) (Z : List Int) (A' : Option Addr) (c' : Nat) (K : List Bool) (w : World) (hZ : ReadAt w A inF 1 Z) (hZl : Z.length ≤ 9223372036854775807) (hZb : ∀ n ∈ Z, -9223372036854775808 ≤ n ∧ n ≤ 9223372036854775807) (hK : ReadAt w A' boF 1 K) :
    Calls Try.prog 3 #[geomV x y z, .slice A Z.length c, .slice A' K.length c'] w (RetT w true) := by
  have HZ := Lib.hid hZ
  have HZB := Lib.hid hZb
  have HK := Lib.hid hK
  have H369 := fun W => Lib.hid (sectors_any 20 2 10 W (by decide) (by decide) (by decide))
  rw [show gSectors 20 2 10 = 369 by decide] at H369
  have HB1 := Lib.hid ((Below.refl w.heap.size w).alloc (Nat.le_refl _) (.cells #[.int .i64 x, .int .i64 y, .int .i64 z] 23 (0, 0)))
  have HG1 := Lib.hid (heap_alloc_last w (.cells #[.int .i64 x, .int .i64 y, .int .i64 z] 23 (0, 0)))
  clear hZ hZb hK
  unfold geomV at H369 ⊢
  go_enter Try.func3, Try.ntmps3
  go_upto_region 1 with fail
  revert HB1 HG1
  generalize w.alloc (.cells #[.int .i64 x, .int .i64 y, .int .i64 z] 23 (0, 0)) = w1
  intro HB1 HG1
  go_upto_region 3 with (go_at_call 6; go_must (refine (H369 _).out.mono ?_; rintro e w2 ⟨rfl, hb2⟩; have HB2 := Lib.hid (bnext HB1.out hb2); have HG2 := Lib.hid (old_heap HG1.out hb2); clear hb2))
  clear HB1 HG1 H369
  have c0 : w2.cell? ⟨w.heap.size, 0, none⟩ = some (.int .i64 x) := cell_row HG2.out 0
  have c1 : w2.cell? ⟨w.heap.size, 1, none⟩ = some (.int .i64 y) := cell_row HG2.out 1
  have c2 : w2.cell? ⟨w.heap.size, 2, none⟩ = some (.int .i64 z) := cell_row HG2.out 2
  cases hin : gIn x y z with
  | false =>
    have HMO := fun W => Lib.hid (rmay_out x y z W hin)
    unfold geomV at HMO
    go_wp2_with (go_at_call 7; go_must (refine (HMO _).out.mono ?_; rintro e w3 ⟨rfl, hb3⟩; have HB3 := Lib.hid (bnext HB2.out hb3); clear hb3))
    go_ret
    exact ⟨rfl, HB3.out⟩
  | true =>
    have hin2 := hin
    unfold gIn at hin2
    rw [decide_eq_true_iff] at hin2
    obtain ⟨s, rfl⟩ : ∃ s : Nat, x = (s : Int) := ⟨x.toNat, by omega⟩
    obtain ⟨g, rfl⟩ : ∃ g : Nat, y = (g : Int) := ⟨y.toNat, by omega⟩
    obtain ⟨i, rfl⟩ : ∃ i : Nat, z = (i : Int) := ⟨z.toNat, by omega⟩
    obtain ⟨b1, b2, b3, b4, b5, b6⟩ : 8 ≤ s ∧ s ≤ 200 ∧ 1 ≤ g ∧ g ≤ 32 ∧ 2 ≤ i ∧ i ≤ 200 := by omega
    have HMA := fun W => Lib.hid (rmay_any s g i W)
    obtain ⟨ok, hok⟩ : ∃ ok, gMay (s : Int) (g : Int) (i : Int) = ok := ⟨_, rfl⟩
    simp only [hok] at HMA
    unfold geomV at HMA
    have HIN := Lib.hid hin
    clear hin hin2 hx hy
    cases ok with
    | false =>
      go_wp2_with (go_at_call 7; go_must (refine (HMA _).out.mono ?_; rintro e w3 ⟨rfl, hb3⟩; have HB3 := Lib.hid (bnext HB2.out hb3); clear hb3))
      go_ret
      exact ⟨rfl, HB3.out⟩
    | true =>
      have HOK := Lib.hid hok
      have hsg : s * g ≤ 200 * 32 := Nat.mul_le_mul b2 b4
      have hmw : IntKind.i64.wrap ((s : Int) * (g : Int)) = ((s * g : Nat) : Int) := by rw [← Int.natCast_mul]; exact IntWalk.i64_in _ (by omega)
      by_cases h400 : s * g ≤ 400
      rotate_left
      · have hgt : (400 : Int) < (s : Int) * (g : Int) := by rw [← Int.natCast_mul]; omega
        have hmw2 : IntKind.i64.wrap ((s : Int) * (g : Int)) = (s : Int) * (g : Int) := by rw [← Int.natCast_mul]; exact IntWalk.i64_in _ (by omega)
        clear hmw hok
        go_wp2_with (go_at_call 7; go_must (refine (HMA _).out.mono ?_; rintro e w3 ⟨rfl, hb3⟩; have HB3 := Lib.hid (bnext HB2.out hb3); have c0 : w3.cell? ⟨w.heap.size, 0, none⟩ = some (.int .i64 (s : Int)) := cell_row (old_heap HG2.out hb3) 0; have c1 : w3.cell? ⟨w.heap.size, 1, none⟩ = some (.int .i64 (g : Int)) := cell_row (old_heap HG2.out hb3) 1; clear hb3))
        go_ret
        exact ⟨rfl, HB3.out⟩
      · obtain ⟨m, hm⟩ : ∃ m, s * g = m := ⟨_, rfl⟩
        have hmi : (s : Int) * (g : Int) = (m : Int) := by rw [← Int.natCast_mul, hm]
        have HMI := Lib.hid hmi
        have HM := Lib.hid hm
        rw [hm] at h400 hsg
        have hm8 : 8 ≤ m := by rw [← hm]; exact Nat.le_trans b1 (Nat.le_mul_of_pos_right _ b3)
        have hgt : ¬ (400 : Int) < (m : Int) := by omega
        have hgd : decide ((400 : Int) < (m : Int)) = false := by simpa using hgt
        have hmw2 : IntKind.i64.wrap (m : Int) = (m : Int) := IntWalk.i64_in _ (by omega)
        clear hmw hok hm
        go_upto_region 5 with (go_at_call 7; go_must (refine (HMA _).out.mono ?_; rintro e w3 ⟨rfl, hb3⟩; have HB3 := Lib.hid (bnext HB2.out hb3); have HG3 := Lib.hid (old_heap HG2.out hb3); have c0 : w3.cell? ⟨w.heap.size, 0, none⟩ = some (.int .i64 (s : Int)) := cell_row HG3.out 0; have c1 : w3.cell? ⟨w.heap.size, 1, none⟩ = some (.int .i64 (g : Int)) := cell_row HG3.out 1; have c2 : w3.cell? ⟨w.heap.size, 2, none⟩ = some (.int .i64 (i : Int)) := cell_row HG3.out 2; clear hb3))
        clear HMA HG2 HB2
        have HOW := fun W => Lib.hid (own_any (s : Int) (g : Int) (i : Int) W)
        unfold geomV at HOW
        go_upto_region 6 with (go_at_call 8; go_must (refine (HOW _).out.mono ?_; rintro e w4 ⟨rfl, hb4⟩; have HB4 := Lib.hid (bnext HB3.out hb4); have HG4 := Lib.hid (old_heap HG3.out hb4); clear hb4))
        have HP5 := Lib.hid (heap_alloc_last w4 (.cells #[.int .i64 (s : Int), .int .i64 (g : Int), .int .i64 (i : Int)] 26 (0, 0)))
        have hbA : Below w4.heap.size w4 (w4.alloc (.cells #[.int .i64 (s : Int), .int .i64 (g : Int), .int .i64 (i : Int)] 26 (0, 0))) := (Below.refl _ _).alloc (Nat.le_refl _) _
        have HG5 := Lib.hid (old_heap HG4.out hbA)
        have HB5 := Lib.hid (bnext HB4.out hbA)
        clear hbA HG3 HB3 HG4 HB4 HOW
        revert HP5 HG5 HB5
        generalize w4.alloc (.cells #[.int .i64 (s : Int), .int .i64 (g : Int), .int .i64 (i : Int)] 26 (0, 0)) = w5
        generalize w4.heap.size = p5
        intro HP5 HG5 HB5
        have hN1 : 1 ≤ gSectors s g i := by unfold gSectors gFirst; omega
        have hN2 : gSectors s g i ≤ 65536 := by
          have := gHead_le s i (by omega) (by omega)
          unfold gSectors gFirst
          omega
        obtain ⟨hpl0, hw0, hf0⟩ := plD0_ok (sup := supS s g i) hN1
        have hok1 := plD1_ok (sup := supS s g i) hN1
        have HSE := fun W => Lib.hid (sectors_any s g i W (by omega) (by omega) (by omega))
        have HSU := fun W => Lib.hid (gsuper_any s g i W (by omega) (by omega) (by omega))
        have HNW := fun W => Lib.hid (dnew_yes (gSectors s g i) W hN1 hN2)
        unfold geomV at HSE HSU
        unfold DNewTo at HNW
        obtain ⟨N, hN⟩ : ∃ N, gSectors s g i = N := ⟨_, rfl⟩
        have HWR := fun (W : World) (base p gS : Nat) (h : DkAt W base p gS (.slice none 0 0) (dk0 N)) => Lib.hid (dwrite_any 0 (supS s g i) h (by show 0 ≤ 1000; omega) (by show (-1 : Int) ≤ -1 ∧ (-1 : Int) ≤ _; decide) (by show (0 : Int) ≤ 0 ∧ (0 : Int) ≤ _; decide))
        have HFL := fun (W : World) (base p gS : Nat) (vq : Value) (h : DkAt W base p gS vq (writeD (dk0 N) 0 (supS s g i)).1) => Lib.hid (dflush_any h (m := 1) (by decide) (hN ▸ hok1))
        rw [hN] at hN1 hN2 hw0 hf0
        simp only [hN] at HSE HNW
        rw [hw0] at HWR
        rw [hf0] at HFL
        have HPL0 := Lib.hid hpl0
        have HNE := Lib.hid hN
        have HSGI := Lib.hid (⟨b1, b2, b3, b4, b5, b6⟩ : 8 ≤ s ∧ s ≤ 200 ∧ 1 ≤ g ∧ g ≤ 32 ∧ 2 ≤ i ∧ i ≤ 200)
        clear hpl0 hw0 hf0 hok1 hN c0 c1 c2 b1 b2 b3 b4 b5 b6 hgt hgd hmw2 hsg hN1 hmi
        have q0 : w5.cell? ⟨p5, 0, none⟩ = some (.int .i64 (s : Int)) := cell_row HP5.out 0
        have q1 : w5.cell? ⟨p5, 1, none⟩ = some (.int .i64 (g : Int)) := cell_row HP5.out 1
        have q2 : w5.cell? ⟨p5, 2, none⟩ = some (.int .i64 (i : Int)) := cell_row HP5.out 2
        go_upto_region 7 with (first
          | (go_at_call 6; go_must (refine (HSE _).out.mono ?_; rintro e w6 ⟨rfl, hb6⟩; have HB6 := Lib.hid (bnext HB5.out hb6); have HG6 := Lib.hid (old_heap HG5.out hb6); have HP6 := Lib.hid (old_heap HP5.out hb6); clear hb6))
          | (go_at_call 9; go_must (refine (HNW _).out.mono ?_; rintro e w7 ⟨p, gS, rfl, hd7, hb7⟩; have HB7 := Lib.hid (bnext HB6.out hb7); have HG7 := Lib.hid (old_heap HG6.out hb7); have HP7 := Lib.hid (old_heap HP6.out hb7); have HD7 := Lib.hid hd7; have HZZ := Lib.hid (⟨(Array.getElem?_eq_some_iff.1 HP6.out).1, (Array.getElem?_eq_some_iff.1 HG6.out).1⟩ : p5 < w6.heap.size ∧ w.heap.size < w6.heap.size); clear hd7 hb7)))
        clear q0 q1 q2 HG5 HP5 HB5 HG6 HP6 HB6 HSE HNW
        have q0 : w7.cell? ⟨p5, 0, none⟩ = some (.int .i64 (s : Int)) := cell_row HP7.out 0
        have q1 : w7.cell? ⟨p5, 1, none⟩ = some (.int .i64 (g : Int)) := cell_row HP7.out 1
        have q2 : w7.cell? ⟨p5, 2, none⟩ = some (.int .i64 (i : Int)) := cell_row HP7.out 2
        unfold DTo at HWR HFL
        generalize hbase : w6.heap.size = base at HD7 HZZ
        have hbw : w.heap.size ≤ base := by have := HZZ.out.2; omega
        clear hbase
        go_upto_region 9 with (first
          | (go_at_call 11; go_must (refine (HSU _).out.mono ?_; rintro e w8 ⟨rfl, hb8⟩; have HB8 := Lib.hid (bnext HB7.out hb8); have HG8 := Lib.hid (old_heap HG7.out hb8); have HP8 := Lib.hid (old_heap HP7.out hb8); have HD8 := Lib.hid (HD7.out.below hb8); clear hb8))
          | (go_at_call 10; go_must (refine (HWR _ _ _ _ HD8.out).out.mono ?_; rintro e w9 hd9; have hb9 := DTo.baseP HD8.out hd9; obtain ⟨rfl, vq9, hD9, -, -⟩ := hd9; have HD9 := Lib.hid hD9; have HB9 := Lib.hid (HB8.out.trans (hb9.mono hbw)); have HG9 := Lib.hid ((hb9.block w.heap.size HZZ.out.2).trans HG8.out); have HP9 := Lib.hid ((hb9.block p5 HZZ.out.1).trans HP8.out); clear hb9 hD9))
          | (go_at_call 12; go_must (refine (HFL _ _ _ _ _ HD9.out).out.mono ?_; rintro e w10 hd10; have hb10 := DTo.baseP HD9.out hd10; obtain ⟨rfl, vqA, hDA, -, -⟩ := hd10; have HDA := Lib.hid hDA; have HBA := Lib.hid (HB9.out.trans (hb10.mono hbw)); have HGA := Lib.hid ((hb10.block w.heap.size HZZ.out.2).trans HG9.out); have HPA := Lib.hid ((hb10.block p5 HZZ.out.1).trans HP9.out); clear hb10 hDA)))
        have hst : PlW w base s g i p gS p5 0 vqA (plD0 s g i (supS s g i)) w10 := by
          refine ⟨?_, HPL0.out, HPA.out, HGA.out, HBA.out, HZZ.out.1, HZZ.out.2⟩
          unfold plD0
          rw [HNE.out]
          exact HDA.out
        have HST := Lib.hid hst
        clear hst q0 q1 q2 HD7 HB7 HG7 HP7 HB8 HG8 HP8 HD8 HD9 HB9 HG9 HP9 HDA HBA HGA HPA HWR HFL HSU HPL0
        go_upto_block 0 with fail
        go_cut [] (fun wc => Hid (∃ k vq D, k ≤ 40 ∧ PlW w base s g i p gS p5 k vq D wc))
        case first =>
          go_wp2
          go_loopw [10] (fun iv wr => ∃ k : Nat, k ≤ Z.length ∧ k ≤ 40 ∧ iv = .int .i64 (k : Int) ∧ Hid (∃ vq D, PlW w base s g i p gS p5 k vq D wr)) (fun iv _ => (40 - intOf iv).toNat)
          case atStart => exact ⟨0, by omega, by omega, by rfl, Lib.hid ⟨_, _, HST.out⟩⟩
          case round =>
            clear HST
            obtain ⟨k, hk, hk40, rfl, HJ⟩ := hrel
            obtain ⟨vq, D, hs⟩ := HJ.out
            have HS := Lib.hid hs
            by_cases hgo : k < Z.length ∧ k < 40
            · obtain ⟨hlt, h40⟩ := hgo
              have hlt' : (k : Int) < (Z.length : Int) := by omega
              have h40' : (k : Int) < 40 := by omega
              obtain ⟨n, hn⟩ : ∃ n, Z[k]? = some n := ⟨_, List.getElem?_eq_getElem hlt⟩
              obtain ⟨ab, ao, rfl, hrow⟩ := HZ.out (fun e => by rw [e] at hlt; exact absurd hlt (Nat.not_lt_zero _))
              have cz := hrow k n hn 0 (by decide)
              have hab : ab < w.heap.size := World.block_lt_of_cell? w ⟨ab, ao + k * 1 + 0, none⟩ cz
              have cz2 : wr.cell? ⟨ab, ao + k, none⟩ = some (.int .i64 n) := by
                have := (hs.below.cell (p := ⟨ab, ao + k * 1 + 0, none⟩) hab).trans cz
                simpa [inF] using this
              have hnb := HZB.out n (List.mem_of_getElem? hn)
              have r0 : wr.cell? ⟨w.heap.size, 0, none⟩ = some (.int .i64 (s : Int)) := cell_row hs.raw 0
              have r1 : wr.cell? ⟨w.heap.size, 1, none⟩ = some (.int .i64 (g : Int)) := cell_row hs.raw 1
              obtain ⟨b1, b2, b3, b4, b5, b6⟩ := HSGI.out
              have hm := HM.out
              have hmi := HMI.out
              have hw1 : IntKind.i64.wrap (m : Int) = (m : Int) := IntWalk.i64_in _ (by omega)
              have hw2 : IntKind.i64.wrap ((m : Int) * 8) = (m : Int) * 8 := IntWalk.i64_in _ (by omega)
              have hm0 : ¬ (m : Int) * 8 = 0 := by omega
              have hm1 : ¬ m = 0 := by omega
              obtain ⟨t, ht, hte⟩ := tm_ex n m (by omega) (by omega)
              have hts : t < s * g * 8 := by rw [hm]; exact ht
              obtain ⟨hwo, hwv⟩ := bl_wh s g i t hts
              have hdg : t / 8 / g < s := by
                rw [Nat.div_lt_iff_lt_mul (by omega)]
                omega
              have hmg : t / 8 % g < g := Nat.mod_lt _ (by omega)
              have HBK : ∀ W, Hid (Calls Try.prog 13 #[.agg #[.int .i64 (s : Int), .int .i64 (g : Int), .int .i64 (i : Int)], .int .i64 (IntKind.i64.wrap ((IntKind.i64.wrap ((t : Int) / 8)).tdiv (g : Int))), .int .i64 ((IntKind.i64.wrap ((t : Int) / 8)).tmod (g : Int)), .int .i64 ((t : Int).tmod 8)] W (RetN W ((blN s i t : Nat) : Int))) := fun W => Lib.hid (by
                have h := block_in s g i (t / 8 / g) (t / 8 % g) (t % 8) W (by omega) (by omega) (by omega) hdg hmg (by omega)
                rw [bl_sum] at h
                have e1 : IntKind.i64.wrap ((t : Int) / 8) = ((t / 8 : Nat) : Int) := by rw [show (t : Int) / 8 = ((t / 8 : Nat) : Int) by simp]; exact IntWalk.i64_in _ (by omega)
                have hle : t / 8 / g ≤ t / 8 := Nat.div_le_self _ _
                have e2 : IntKind.i64.wrap ((((t / 8 : Nat) : Int)).tdiv (g : Int)) = ((t / 8 / g : Nat) : Int) := by rw [show (((t / 8 : Nat) : Int)).tdiv (g : Int) = ((t / 8 / g : Nat) : Int) from rfl]; generalize t / 8 / g = d at hle ⊢; exact IntWalk.i64_in _ (by omega)
                rw [e1, e2]
                exact h)
              have hbl : blN s i t ≤ 100000 := by
                have := gHead_le s i (by omega) (by omega)
                unfold blN gFirst
                omega
              have HWH := fun W => Lib.hid (where_any s g i (blN s i t) W (by omega) b3 (by omega) (by omega) (by omega))
              rw [hwv] at HWH
              unfold geomV at HWH
              have HWO := Lib.hid hwo
              have hg0 : ¬ (g : Int) = 0 := by omega
              have hgz : ¬ g = 0 := by omega
              have HTS := Lib.hid hts
              clear hrow cz hn hs b1 b2 b3 b4 b5 b6 hm hab hts hwo hwv hdg hmg
              go_upto_region 12 with fail
              go_quiet (fail)
              rename_i nq
              have HS2 : Hid (PlW w base s g i p gS p5 k vq D (wr.drewN nq)) := Lib.hid (PlW.drewN HS.out nq)
              revert HS2
              generalize wr.drewN nq = wa
              intro HS2
              have p0 : wa.cell? ⟨p5, 0, none⟩ = some (.int .i64 (s : Int)) := cell_row HS2.out.box 0
              have p1 : wa.cell? ⟨p5, 1, none⟩ = some (.int .i64 (g : Int)) := cell_row HS2.out.box 1
              have p2 : wa.cell? ⟨p5, 2, none⟩ = some (.int .i64 (i : Int)) := cell_row HS2.out.box 2
              have r1a : wa.cell? ⟨w.heap.size, 1, none⟩ = some (.int .i64 (g : Int)) := cell_row HS2.out.raw 1
              have HC13 : Hid ((wa.cell? ⟨p5, 0, none⟩ = some (.int .i64 (s : Int)) ∧ wa.cell? ⟨p5, 1, none⟩ = some (.int .i64 (g : Int)) ∧ wa.cell? ⟨p5, 2, none⟩ = some (.int .i64 (i : Int))) ∧ wa.cell? ⟨w.heap.size, 1, none⟩ = some (.int .i64 (g : Int))) := Lib.hid ⟨⟨p0, p1, p2⟩, r1a⟩
              go_upto_region 13 with fail
              clear HC13
              go_region_held3 (fun w' => w'.cell? ⟨p5, 0, none⟩ = some (.int .i64 (s : Int)) ∧ w'.cell? ⟨p5, 1, none⟩ = some (.int .i64 (g : Int)) ∧ w'.cell? ⟨p5, 2, none⟩ = some (.int .i64 (i : Int)) ∧ w'.cell? ⟨w.heap.size, 1, none⟩ = some (.int .i64 (g : Int))) (first | (go_simp; done) | (exact ⟨cell_row HS3.out.box 0, cell_row HS3.out.box 1, cell_row HS3.out.box 2, cell_row HS3.out.raw 1⟩))
                (first | (go_at_call 13; (with_reducible refine (HBK _).out.mono ?_); rintro e wb ⟨rfl, hbb⟩; have HS3 := Lib.hid (HS2.out.below' (bnext ((Below.refl _ wa).drew) hbb))))
              clear p0 p1 p2 r1a HS2 HBK
              have p0 : wb.cell? ⟨p5, 0, none⟩ = some (.int .i64 (s : Int)) := cell_row HS3.out.box 0
              have p1 : wb.cell? ⟨p5, 1, none⟩ = some (.int .i64 (g : Int)) := cell_row HS3.out.box 1
              have p2 : wb.cell? ⟨p5, 2, none⟩ = some (.int .i64 (i : Int)) := cell_row HS3.out.box 2
              go_upto_region 15 with (go_at_call 14; (with_reducible refine (HWH _).out.mono ?_); rintro e wc ⟨rfl, hbc⟩; have HS4 := Lib.hid (HS3.out.below' hbc); have r1b : wc.cell? ⟨w.heap.size, 1, none⟩ = some (.int .i64 (g : Int)) := cell_row HS4.out.raw 1; clear hbc)
              obtain ⟨hpw, hwe⟩ := pl_write (x := scM (UInt8.ofNat (t % 256))) HS4.out.pl HWO.out
              have hdq := HS4.out.pl.que
              have hdd := HS4.out.pl.deeds
              have hda := HS4.out.pl.calm.2
              have HWT := Lib.hid (dwrite_any ((blN s i t : Nat) : Int) (scM (UInt8.ofNat (t % 256))) HS4.out.disk (by omega) (by rw [hda]; decide) (by omega))
              rw [hwe, ← scM_cells, ← mod_u8] at HWT
              unfold DTo at HWT
              have HPW := Lib.hid hpw
              have hbw : w.heap.size ≤ base := Nat.le_of_lt HS4.out.b0
              clear hdq hdd hda hpw hwe hbw
              go_wp2_with (go_at_call 10; (with_reducible refine HWT.out.mono ?_); rintro e we hdt; have HE := Lib.hid (PlW.step HS4.out HPW.out hdt); obtain ⟨rfl, vqe, -⟩ := hdt)
              exact ⟨⟨k + 1, by omega, by omega, by go_num, HE⟩, by simp [intOf]; omega⟩
            · have hor : ∀ {G : Prop}, ((k : Int) < (Z.length : Int) → ¬ (k : Int) < 40 → G) → (¬ (k : Int) < (Z.length : Int) → G) → G := fun h1 h2 => by
                by_cases h : (k : Int) < (Z.length : Int)
                · exact h1 h (by omega)
                · exact h2 h
              clear hs
              refine hor (fun hj1 hj2 => ?_) (fun hj1 => ?_)
              all_goals
                clear hor hgo
                go_wp2
                go_meet
                case rel => exact Lib.hid ⟨k, vq, D, hk40, HS.out⟩
        case rest =>
          obtain ⟨k, vq, D, hk40, hs⟩ := hcut.out
          obtain ⟨wr, hwr⟩ : ∃ wr, wr = wc := ⟨_, rfl⟩
          rw [← hwr] at hs ⊢
          clear hwr hcut HST
          have hbw : w.heap.size ≤ base := Nat.le_of_lt hs.b0
          have HCR := Lib.hid (dcrash_any hs.disk (m := k + 2) (by omega) hs.pl.ok A' c' K (HK.out.below boF_len hs.below))
          unfold DTo at HCR
          obtain ⟨hm0, hr0⟩ := pl_read hs.pl K 0 (by unfold gSectors gFirst; omega)
          have hr0 := hr0 (wh_zero s g i)
          rw [if_pos rfl] at hr0
          have HS := Lib.hid hs
          clear hs
          have HRD := fun (W : World) (vq' : Value) (h : PlZ w base s g i p gS p5 vq' (crashD D K) W) => Lib.hid (dread_any ((0 : Nat) : Int) h.disk (by show 0 ≤ 1000; omega))
          rw [hm0, hr0] at HRD
          unfold RdEnd at HRD
          obtain ⟨L, hL⟩ : ∃ L, (supS s g i).1 = L := ⟨_, rfl⟩
          have hl : L.length = 128 := by rw [← hL]; exact (supS s g i).2
          have hsgi := HSGI.out
          obtain ⟨hgv, hge⟩ := sup_readP s g i (by omega) (by omega) (by omega) HOK.out
          have hsl : sealS 1 (supB s g i) = L := hL
          rw [hsl] at hgv hge
          have HGR := fun W => Lib.hid (gread_any L W hl)
          rw [hgv, hge] at HGR
          obtain ⟨CS, hCS⟩ : ∃ CS, bvs L = CS := ⟨_, rfl⟩
          have hcl : CS.length = 128 := by rw [← hCS, bvs_length]; exact hl
          have HC1 : Hid (∀ u ∈ CS, u.oneCell' = true) := Lib.hid (by rw [← hCS]; exact bvs_oneCell _)
          have hsv : secV L = .agg CS.toArray := by unfold secV; rw [hCS]
          rw [hL, hsv] at HRD
          simp only [hsv] at HGR
          unfold geomV at HGR
          have HCL := Lib.hid hcl
          clear hm0 hr0 hL hl hgv hge hsl hCS hsv hcl hsgi
          go_upto_region 19 with (first
            | (go_at_call 15; (with_reducible refine HCR.out.mono ?_); rintro e wx hdt; obtain ⟨vqx, hx⟩ := PlW.crash HS.out hdt; have HX := Lib.hid hx; obtain ⟨rfl, -⟩ := hdt; clear hx)
            | (go_at_call 16; (refine (HRD _ _ HX.out).out.mono ?_); rintro e wy ⟨rfl, hby⟩; have HY := Lib.hid (HX.out.below' hby); clear hby)
            | (refine wpList_store_row rfl 36 (.tmp 17) (.tmp 160) rfl wy.heap.size zArr CS.toArray 36 rfl rfl (heap_alloc_last _ _) (by simp only [List.size_toArray]; rw [HCL.out]; exact size_sec) (by simp [HCL.out, zArr_size]) (all_oneCell_toArray HC1.out) ?_))
          rw [World.setRow_alloc_new]
          have hz := HY.out.below' ((Below.refl _ wy).alloc (Nat.le_refl _) (.cells CS.toArray 36))
          have hz17 := heap_alloc_last wy (.cells CS.toArray 36 (0, 0))
          have HZ := Lib.hid hz
          have HZ17 := Lib.hid hz17
          clear hz hz17 HY HX HCR HRD
          revert HZ HZ17
          generalize wy.alloc (.cells CS.toArray 36) = wz
          generalize wy.heap.size = b17
          intro HZ HZ17
          go_upto_region 22 with (first
            | (refine wpList_load_row rfl 36 (.tmp 17) rfl b17 rfl _ _ _ _ HZ17.out Try.underlying36 rfl (by simp only [List.size_toArray]; rw [HCL.out]; exact size_sec) ?_)
            | (go_at_call 17; (refine (HGR _).out.mono ?_); rintro e wv ⟨rfl, hbv⟩; have HV := Lib.hid (HZ.out.below' hbv); clear hbv))
          have hv := HV.out.below' ((Below.refl _ wv).alloc (Nat.le_refl _) (.cells #[.int .i64 (s : Int), .int .i64 (g : Int), .int .i64 (i : Int)] 26))
          have hv18 := heap_alloc_last wv (.cells #[.int .i64 (s : Int), .int .i64 (g : Int), .int .i64 (i : Int)] 26 (0, 0))
          have HW := Lib.hid hv
          have HW18 := Lib.hid hv18
          clear hv hv18 HV HZ HZ17 HGR
          revert HW HW18
          generalize wv.alloc (.cells #[.int .i64 (s : Int), .int .i64 (g : Int), .int .i64 (i : Int)] 26) = wu
          generalize wv.heap.size = b18
          intro HW HW18
          have q0 : wu.cell? ⟨b18, 0, none⟩ = some (.int .i64 (s : Int)) := cell_row HW18.out 0
          have q1 : wu.cell? ⟨b18, 1, none⟩ = some (.int .i64 (g : Int)) := cell_row HW18.out 1
          have q2 : wu.cell? ⟨b18, 2, none⟩ = some (.int .i64 (i : Int)) := cell_row HW18.out 2
          have p0 : wu.cell? ⟨p5, 0, none⟩ = some (.int .i64 (s : Int)) := cell_row HW.out.box 0
          have p1 : wu.cell? ⟨p5, 1, none⟩ = some (.int .i64 (g : Int)) := cell_row HW.out.box 1
          have p2 : wu.cell? ⟨p5, 2, none⟩ = some (.int .i64 (i : Int)) := cell_row HW.out.box 2
          go_upto_region 24 with fail
          clear q0 q1 q2 p0 p1 p2 HW18
          go_wp2
          go_loopw [19] (fun iv wr => ∃ n : Nat, 1 ≤ n ∧ n ≤ N ∧ iv = .int .i64 (n : Int) ∧ Hid (PlZ w base s g i p gS p5 vqx (crashD D K) wr)) (fun iv _ => (N - (intOf iv).toNat))
          case atStart => exact ⟨1, by omega, by have := HNE.out; unfold gSectors gFirst at this; omega, by rfl, HW⟩
          case round =>
            clear HW
            obtain ⟨n, hn1, hn2, rfl, HJ⟩ := hrel
            have p0 : wr.cell? ⟨p5, 0, none⟩ = some (.int .i64 (s : Int)) := cell_row HJ.out.box 0
            have p1 : wr.cell? ⟨p5, 1, none⟩ = some (.int .i64 (g : Int)) := cell_row HJ.out.box 1
            have p2 : wr.cell? ⟨p5, 2, none⟩ = some (.int .i64 (i : Int)) := cell_row HJ.out.box 2
            have hsgi := HSGI.out
            have HSE := fun W => Lib.hid (sectors_any s g i W (by omega) (by omega) (by omega))
            unfold geomV at HSE
            simp only [HNE.out] at HSE
            by_cases hlt : n < N
            · have hlt' : (n : Int) < (N : Int) := by omega
              obtain ⟨hmn, hrn⟩ := pl_read HS.out.pl K n (by rw [HNE.out]; exact hlt)
              have hn0 : ¬ n = 0 := by omega
              simp only [if_neg hn0] at hrn
              have HRD := fun (W : World) (h : PlZ w base s g i p gS p5 vqx (crashD D K) W) => Lib.hid (dread_any (n : Int) h.disk (by show 0 ≤ 1000; omega))
              have HWH := fun W => Lib.hid (where_any s g i n W (by omega) (by omega) (by omega) (by omega) (by omega))
              rw [hmn] at HRD
              unfold RdEnd at HRD
              unfold geomV at HWH
              unfold whV at HWH
              obtain ⟨b, hb⟩ : ∃ b, whOk s g i n = b := ⟨_, rfl⟩
              rw [hb] at hrn
              simp only [hb] at HWH
              clear hn0 hb hmn hsgi
              cases b with
              | true =>
                clear hrn
                simp only [if_true] at HWH
                obtain ⟨R, hR⟩ : ∃ R, readS (crashD D K) (n : Int) = R := ⟨_, rfl⟩
                rw [hR] at HRD
                clear hR
                obtain ⟨CR, hCR⟩ : ∃ CR, bvs R.1 = CR := ⟨_, rfl⟩
                have hcl : CR.length = 128 := by rw [← hCR, bvs_length]; exact R.2
                have HC2 : Hid (∀ u ∈ CR, u.oneCell' = true) := Lib.hid (by rw [← hCR]; exact bvs_oneCell _)
                have hsv : secV R.1 = .agg CR.toArray := by unfold secV; rw [hCR]
                rw [hsv] at HRD
                have HCR2 := Lib.hid hcl
                clear hCR hsv hcl
                obtain ⟨v1, hv1⟩ : ∃ v1, (((n - gFirst s i) / 9 / g : Nat) : Int) = v1 := ⟨_, rfl⟩
                obtain ⟨v2, hv2⟩ : ∃ v1, (((n - gFirst s i) / 9 % g : Nat) : Int) = v1 := ⟨_, rfl⟩
                obtain ⟨v3, hv3⟩ : ∃ v1, (((n - gFirst s i) % 9 - 1 : Nat) : Int) = v1 := ⟨_, rfl⟩
                simp only [hv1, hv2, hv3] at HWH
                clear hv1 hv2 hv3
                go_upto_region 28 with (first
                  | (go_at_call 6; refine (HSE _).out.mono ?_; rintro e wa ⟨rfl, hba⟩; have HA := Lib.hid (HJ.out.below' hba); clear hba)
                  | (go_at_call 16; refine (HRD _ HA.out).out.mono ?_; rintro e wb ⟨rfl, hbb⟩; have HB := Lib.hid (HA.out.below' hbb); clear hbb)
                  | (refine wpList_store_row rfl 36 (.tmp 20) (.tmp 186) rfl wb.heap.size zArr CR.toArray 36 rfl rfl (heap_alloc_last _ _) (by simp only [List.size_toArray]; rw [HCR2.out]; exact size_sec) (by simp [HCR2.out, zArr_size]) (all_oneCell_toArray HC2.out) ?_))
                rw [World.setRow_alloc_new]
                have HD := Lib.hid (HB.out.below' ((Below.refl _ wb).alloc (Nat.le_refl _) (.cells CR.toArray 36)))
                clear HJ HA HB p0 p1 p2 HRD HSE
                revert HD
                generalize wb.alloc (.cells CR.toArray 36) = wd
                generalize wb.heap.size = bd
                intro HD
                have p0 : wd.cell? ⟨p5, 0, none⟩ = some (.int .i64 (s : Int)) := cell_row HD.out.box 0
                have p1 : wd.cell? ⟨p5, 1, none⟩ = some (.int .i64 (g : Int)) := cell_row HD.out.box 1
                have p2 : wd.cell? ⟨p5, 2, none⟩ = some (.int .i64 (i : Int)) := cell_row HD.out.box 2
                go_wp2_with (go_at_call 14; refine (HWH _).out.mono ?_; rintro e we ⟨rfl, hbe⟩; have HE := Lib.hid (HD.out.below' hbe); clear hbe)
                exact ⟨⟨n + 1, by omega, by omega, by go_num, HE⟩, by simp [intOf]; omega⟩
              | false =>
                have hr := hrn rfl
                rw [hr] at HRD
                have hsv : secV sc0.1 = .agg zArr := rfl
                rw [hsv] at HRD
                clear hrn hr hsv
                rw [if_neg Bool.false_ne_true] at HWH
                go_upto_region 28 with (first
                  | (go_at_call 6; refine (HSE _).out.mono ?_; rintro e wa ⟨rfl, hba⟩; have HA := Lib.hid (HJ.out.below' hba); clear hba)
                  | (go_at_call 16; refine (HRD _ HA.out).out.mono ?_; rintro e wb ⟨rfl, hbb⟩; have HB := Lib.hid (HA.out.below' hbb); clear hbb)
                  | (refine wpList_store_row rfl 36 (.tmp 20) (.tmp 186) rfl wb.heap.size zArr zArr 36 rfl rfl (heap_alloc_last _ _) (by rw [zArr_size]; exact size_sec) rfl zArr_one ?_))
                rw [World.setRow_alloc_new]
                have HD := Lib.hid (HB.out.below' ((Below.refl _ wb).alloc (Nat.le_refl _) (.cells zArr 36)))
                have HD2 := Lib.hid (heap_alloc_last wb (.cells zArr 36 (0, 0)))
                clear HJ HA HB p0 p1 p2 HRD HSE
                revert HD HD2
                generalize wb.alloc (.cells zArr 36) = wd
                generalize wb.heap.size = bd
                intro HD HD2
                have p0 : wd.cell? ⟨p5, 0, none⟩ = some (.int .i64 (s : Int)) := cell_row HD.out.box 0
                have p1 : wd.cell? ⟨p5, 1, none⟩ = some (.int .i64 (g : Int)) := cell_row HD.out.box 1
                have p2 : wd.cell? ⟨p5, 2, none⟩ = some (.int .i64 (i : Int)) := cell_row HD.out.box 2
                have HEZ := eq_zero
                go_wp2_with (first
                  | (go_at_call 14; refine (HWH _).out.mono ?_; rintro e we ⟨rfl, hbe⟩; have HE := Lib.hid (HD.out.below' hbe); have HE2 := Lib.hid (old_heap HD2.out hbe); clear hbe)
                  | (refine wpList_load_row_g (by rfl) 36 (.tmp 20) rfl bd rfl _ _ _ _ HE2.out Try.underlying36 rfl (by rw [zArr_size]; exact size_sec) ?_))
                exact ⟨⟨n + 1, by omega, by omega, by go_num, HE⟩, by simp [intOf]; omega⟩
            · have hge : ¬ (n : Int) < (N : Int) := by omega
              go_wp2_with (go_at_call 6; refine (HSE _).out.mono ?_; rintro e wa ⟨rfl, hba⟩; have HA := Lib.hid (HJ.out.below' hba); clear hba)
              go_ret
              exact ⟨rfl, HA.out.below⟩
#print axioms drumlinPlaces_walk
end Go.Proofs.Ytcpfafmkhegckaa
