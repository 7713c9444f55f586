/-
  Sealed sectors: the walks of Open and Is.
-/
import Derived.Test.YtcpfafmkhegckaaSeal
namespace Go.Proofs.Ytcpfafmkhegckaa
open Go.RowKit
set_option linter.unusedVariables false
set_option linter.unusedSimpArgs false
theorem part_one (l : List UInt8) (a : Nat) (h : a < l.length) : part l a 1 = (l.getD a 0).toNat := by
  have := part_succ l a 0 (by simpa using h)
  rw [part_zero] at this
  simpa using this
theorem rNum_at (l : List UInt8) (a k : Nat) (h1 : 1 ≤ k) (h8 : k ≤ 8) (h : a + k ≤ 128) : rNum ⟨l, a, 0⟩ (k : Int) = (⟨l, a + k, 0⟩, part l a k) := by
  have : fitsB 128 a (k : Int) = true := (fitsB_iff _ _ _).2 (by omega)
  simp [rNum, this]
theorem rBytes_at (l : List UInt8) (a k : Nat) (h : a + k ≤ 128) : rBytes ⟨l, a, 0⟩ (k : Int) = (⟨l, a + k, 0⟩, (l.drop a).take k) := by
  unfold rBytes; rw [if_pos rfl, if_neg (by simp; omega)]; simp
theorem equal_sector (w : World) (xs ys : List UInt8) (hx : xs.length = 128) (hy : ys.length = 128) : (Op.equalIn 10000 36 (secV xs) (secV ys)).run Try.prog w = .ok (decide (xs = ys)) w :=
  (have h : ∃ i, Try.prog.info? 5 = some i := by
    cases hi : Try.prog.info? 5 with
    | none => have := infoU8; rw [hi] at this; cases this
    | some i => exact ⟨i, rfl⟩
   let ⟨i, hi⟩ := h
   equal_sec Try.underlying36 hi (by kernel_rfl) (by kernel_rfl) Try.underlying5 w xs ys hx hy)
/-- What Open comes to. -/
def OpTo (w : World) (k : UInt8) (l : List UInt8) (n : Int) (e : Ending) (w' : World) : Prop := ∃ v, e = .returned (.tuple #[.int .u8 (k.toNat : Int), v, .int .i64 n]) ∧ w'.ownsRow w.heap.size 5 1 v l.length (bvs l) ∧ Below w.heap.size w w'
theorem opTo_no {l : List UInt8} {w w' : World} {e : Ending} (h : openB l = false) (he : e = .returned (.tuple #[.int .u8 0, .slice none 0 0, .int .i64 21])) (hb : Below w.heap.size w w') :
    OpTo w (openK l) (openL l) (openE l) e w' := by
  unfold openK openL openE
  rw [h]
  exact ⟨_, he, own_nil _ _ _, hb⟩
theorem opTo_yes {l : List UInt8} {w w' : World} {e : Ending} {v : Value} {k : UInt8} {b : List UInt8} {n : Nat} (h : openB l = true) (hk : k = l.getD 2 0) (hb' : b = bodyOf l) (he : e = .returned (.tuple #[.int .u8 (k.toNat : Int), v, .int .i64 0])) (ho : w'.ownsRow w.heap.size 5 1 v n (bvs b)) (hb : Below w.heap.size w w') :
    OpTo w (openK l) (openL l) (openE l) e w' := by
  unfold openK openL openE
  rw [h, if_pos rfl, if_pos rfl, if_pos rfl, ← hk, ← hb']
  have hn := (own_byt ho).2
  subst hn
  exact ⟨_, he, ho, hb⟩
set_option maxHeartbeats 1000000 in
set_option maxRecDepth 10000 in
theorem open_any (l : List UInt8) (w : World) (hl : l.length = 128) :
    Calls Try.prog 58 #[secV l] w (OpTo w (openK l) (openL l) (openE l)) := by
  have HL := Lib.hid hl
  have hz := zero_sec
  have hsz : (bvs l).toArray.size = 128 := by rw [secV_size, hl]
  have HSZ := Lib.hid hsz
  have hk := rNum_at l 0 2 (by decide) (by decide) (by decide)
  have hk2 := rNum_at l 2 1 (by decide) (by decide) (by decide)
  have hk3 := rNum_at l 3 1 (by decide) (by decide) (by decide)
  rw [part_one l 2 (by omega)] at hk2
  rw [part_one l 3 (by omega)] at hk3
  obtain ⟨k, hkd⟩ : ∃ k, k = l.getD 2 0 := ⟨_, rfl⟩
  obtain ⟨n, hnd⟩ : ∃ n, n = (l.getD 3 0).toNat := ⟨_, rfl⟩
  have hn8 : n < 256 := by rw [hnd]; exact UInt8.toNat_lt _
  have hk8 : k.toNat < 256 := UInt8.toNat_lt _
  rw [← hkd] at hk2
  rw [← hnd] at hk3
  have hR : ∀ g w', RdrAt w' g ⟨l, 0, 0⟩ → Calls Try.prog 111 #[.pointer (some ⟨g, 0, none⟩), .int .i64 2] w' (RdTo w' g ⟨l, 2, 0⟩ (.int .u64 (part l 0 2))) := fun g w' h => by have q := rdnum_any g ⟨l, 0, 0⟩ ((2 : Nat) : Int) w' h; rw [hk] at q; exact q
  have hR2 : ∀ g w', RdrAt w' g ⟨l, 2, 0⟩ → Calls Try.prog 111 #[.pointer (some ⟨g, 0, none⟩), .int .i64 1] w' (RdTo w' g ⟨l, 3, 0⟩ (.int .u64 (k.toNat : Int))) := fun g w' h => by have q := rdnum_any g ⟨l, 2, 0⟩ ((1 : Nat) : Int) w' h; rw [hk2] at q; exact q
  have hR3 : ∀ g w', RdrAt w' g ⟨l, 3, 0⟩ → Calls Try.prog 111 #[.pointer (some ⟨g, 0, none⟩), .int .i64 1] w' (RdTo w' g ⟨l, 4, 0⟩ (.int .u64 (n : Int))) := fun g w' h => by have q := rdnum_any g ⟨l, 3, 0⟩ ((1 : Nat) : Int) w' h; rw [hk3] at q; exact q
  have HR := Lib.hid hR
  have HR2 := Lib.hid hR2
  have HR3 := Lib.hid hR3
  have hg1 := heap_alloc_last w (.cells (bvs l).toArray 36 (0, 0))
  have hb1 : Below w.heap.size w (w.alloc (.cells (bvs l).toArray 36 (0, 0))) := (Below.refl _ _).alloc (Nat.le_refl _) _
  have hs1 : (w.alloc (.cells (bvs l).toArray 36 (0, 0))).heap.size = w.heap.size + 1 := by simp
  have HG1 := Lib.hid hg1
  have HB1 := Lib.hid hb1
  have HS1 := Lib.hid hs1
  have HKD := Lib.hid hkd
  have HND := Lib.hid hnd
  have HPT : Hid (part l 0 2 < 65536) := part_lt l 0 2
  have HK8 := Lib.hid hk8
  clear hl hsz hk hk2 hk3 hR hR2 hR3 hg1 hb1 hs1 hkd hnd hk8
  unfold secV
  go_enter Try.func58, Try.ntmps58
  go_upto_region 1 with fail
  revert HG1 HB1 HS1
  generalize w.alloc (.cells (bvs l).toArray 36 (0, 0)) = w1
  intro HG1 HB1 HS1
  go_upto_region 2 with (first
    | (refine wpList_load_row rfl 36 (.tmp 1) rfl w.heap.size rfl _ _ _ _ HG1.out Try.underlying36 rfl (by rw [HSZ.out]; exact size_sec) ?_)
    | (go_at_call 110; refine (nread_any l w1 HL.out).mono ?_; rintro e w2 ⟨g, rfl, hg, hR2, hB2⟩; have HW2 := Lib.hid hR2; have HGE := Lib.hid hg; have HB2 := Lib.hid hB2; clear hR2 hg hB2))
  have HO : Hid (∀ a a', Below w1.heap.size w1 a → OnlyAt g a a' → Below w1.heap.size w1 a') := fun a a' h1 h3 => h1.trans (only_below h3 HGE.out)
  go_upto_region 3 with (go_at_call 111; refine (HR.out g w2 HW2.out).mono ?_; rintro e w3 ⟨rfl, h31, h32⟩; have HW3 := Lib.hid h31; have HB3 := Lib.hid (HO.out _ _ HB2.out h32); clear h31 h32 HW2 HB2)
  have hx1 : (k.toNat : Int) % 256 = (k.toNat : Int) := by have := HK8.out; omega
  go_upto_region 4 with (first
    | (go_at_call 111; refine (HR2.out g w3 HW3.out).mono ?_; rintro e w4 ⟨rfl, h41, h42⟩; have HW4 := Lib.hid h41; have HB4 := Lib.hid (HO.out _ _ HB3.out h42); clear h41 h42 HW3 HB3)
    | (go_at_call 111; refine (HR3.out g w4 HW4.out).mono ?_; rintro e w5 ⟨rfl, h51, h52⟩; have HW5 := Lib.hid h51; have HB5 := Lib.hid (HO.out _ _ HB4.out h52); clear h51 h52 HW4 HB4))
  clear HR HR2 HR3
  by_cases hn : 120 < n
  · have hob : openB l = false := by unfold openB; rw [← HND.out, decide_eq_false (show ¬ n ≤ 120 by omega)]; rfl
    have HOB := Lib.hid hob
    have hnn : (120 : Int) < (n : Int) := by omega
    clear hob hn
    go_wp2
    go_ret3
    exact opTo_no HOB.out rfl (HB1.out.trans (HB5.out.mono (by rw [HS1.out]; omega)))
  · have hnn : ¬ ((120 : Int) < (n : Int)) := by omega
    have HN := Lib.hid hn
    clear hn
    have hbk := rBytes_at l 4 n (by omega)
    have hbody : (l.drop 4).take n = bodyOf l := by rw [HND.out]; rfl
    rw [hbody] at hbk
    have HBT : Hid (Calls Try.prog 112 #[.pointer (some ⟨g, 0, none⟩), .int .i64 (n : Int)] w5 (RdOwn w5 g ⟨l, 4 + n, 0⟩ (bodyOf l))) := by have q := rdbytes_any g ⟨l, 4, 0⟩ (n : Int) w5 HW5.out; rw [hbk] at q; exact q
    have hoe : openB l = (mayB k (bodyOf l) && decide (makeS k (bodyOf l) = l)) := by
      unfold openB makeS
      rw [← HKD.out, ← HND.out, decide_eq_true (show n ≤ 120 by have := HN.out; omega), Bool.true_and]
      cases mayB k (bodyOf l) <;> simp
    have HOE := Lib.hid hoe
    clear hbk hbody hoe
    obtain ⟨b, hbd⟩ : ∃ b, b = bodyOf l := ⟨_, rfl⟩
    have HBD := Lib.hid hbd
    rw [← hbd] at HBT HOE
    clear hbd
    go_upto_region 7 with (go_at_call 112; refine HBT.out.mono ?_; rintro e w6 ⟨v, rfl, ho6, hr6, hg6⟩; have HOW6 := Lib.hid ho6; have HG6 := Lib.hid hg6; clear ho6 hr6 hg6)
    clear HBT
    have hb6 : Below w1.heap.size w1 w6 := HB5.out.trans ⟨HG6.out.os, HG6.out.tape, HG6.out.output, HG6.out.size, fun j hj => HG6.out.block j (by have := HB5.out.size; omega) (by have := HGE.out; simp; omega)⟩
    have HB6 := Lib.hid hb6
    have HBY6 := Lib.hid (own_byt HOW6.out).1
    have HZ5 := Lib.hid HB5.out.size
    clear hb6 HG6 HB5
    have hml := makeS_length k b
    have HMS : Hid ((bvs (makeS k b)).toArray.size = 128) := by unfold Hid; rw [secV_size, hml]
    have HML := Lib.hid hml
    clear hml
    have HMK := Lib.hid (make_any k v b w6 HBY6.out)
    have heq : ∀ W : World, (Op.equalIn 10000 36 (.agg (bvs (makeS k b)).toArray) (.agg (bvs l).toArray)).run Try.prog W = .ok (decide (makeS k b = l)) W := fun W => equal_sector W _ _ HML.out HL.out
    obtain ⟨m, hm⟩ : ∃ m, m = makeS k b := ⟨_, rfl⟩
    rw [← hm] at HMS HMK HOE heq
    clear hm HML
    obtain ⟨me, hme⟩ : ∃ me, me = makeE k b := ⟨_, rfl⟩
    rw [← hme] at HMK
    have HME := Lib.hid hme
    clear hme
    unfold secV at HMK
    go_upto_region 8 with (first
      | (go_at_call 53; refine HMK.out.mono ?_; rintro e w7 ⟨rfl, h7⟩; have HB7 := Lib.hid h7; clear h7)
      | (refine wpList_store_row rfl 36 (.tmp 9) (.tmp 30) rfl w7.heap.size zArr (bvs m).toArray 36 rfl rfl (heap_alloc_last _ _) (by rw [HMS.out]; exact size_sec) (by rw [HMS.out, zArr_size]) (sec_one _) ?_))
    rw [World.setRow_alloc_new]
    have hG8 := heap_alloc_last w7 (.cells (bvs m).toArray 36 (0, 0))
    have hB7 : Below w1.heap.size w1 w7 := HB6.out.trans (HB7.out.mono HB6.out.size)
    have hB8 : Below w1.heap.size w1 (w7.alloc (.cells (bvs m).toArray 36 (0, 0))) := hB7.alloc hB7.size _
    have hO8 := (own_below HOW6.out HB7.out).alloc (.cells (bvs m).toArray 36 (0, 0))
    revert hG8 hB8 hO8
    generalize w7.alloc (.cells (bvs m).toArray 36 (0, 0)) = w8
    intro hG8 hB8 hO8
    have hT8 := (hB8.block w.heap.size (by rw [HS1.out]; omega)).trans HG1.out
    have HG8 := Lib.hid hG8
    have HT8 := Lib.hid hT8
    have HB8 := Lib.hid (HB1.out.trans (hB8.mono (by rw [HS1.out]; omega)))
    have HO8 := Lib.hid (own_mono (base' := w.heap.size) hO8 (by have := HZ5.out; have := HS1.out; omega))
    clear hG8 hT8 hB8 hO8 hB7 HOW6 HB6 HBY6 HMK HB7
    cases hm : mayB k b with
    | true =>
      rw [hm] at HOE
      rw [Bool.true_and] at HOE
      obtain rfl : me = 0 := by rw [HME.out]; unfold makeE; rw [hm]; rfl
      go_wp2_with (first
        | (refine wpList_load_row_g rfl 36 (.tmp 9) rfl w7.heap.size rfl _ _ _ _ HG8.out Try.underlying36 rfl (by rw [HMS.out]; exact size_sec) ?_)
        | (refine wpList_load_row_g rfl 36 (.tmp 1) rfl w.heap.size rfl _ _ _ _ HT8.out Try.underlying36 rfl (by rw [HSZ.out]; exact size_sec) ?_))
      · rename_i hq
        go_ret3
        refine opTo_no ?_ rfl HB8.out
        rw [HOE.out]; simpa using hq
      · rename_i hq
        go_ret3
        refine opTo_yes ?_ HKD.out HBD.out rfl HO8.out HB8.out
        rw [HOE.out]; simpa using hq
    | false =>
      rw [hm] at HOE
      rw [Bool.false_and] at HOE
      obtain rfl : me = 1 := by rw [HME.out]; unfold makeE; rw [hm]; rfl
      go_wp2
      go_ret3
      exact opTo_no HOE.out rfl HB8.out
theorem is_any (l : List UInt8) (k : UInt8) (w : World) (hl : l.length = 128) :
    Calls Try.prog 22 #[secV l, .int .u8 (k.toNat : Int)] w fun e w' => e = .returned (.bool (openB l && decide (l.getD 2 0 = k))) ∧ Below w.heap.size w w' := by
  have HL := Lib.hid hl
  have hsz : (bvs l).toArray.size = 128 := by rw [secV_size, hl]
  have HSZ := Lib.hid hsz
  have hg1 := heap_alloc_last w (.cells (bvs l).toArray 36 (0, 0))
  have HG1 := Lib.hid hg1
  have HB1 : Hid (Below w.heap.size w (w.alloc (.cells (bvs l).toArray 36 (0, 0)))) := (Below.refl _ _).alloc (Nat.le_refl _) _
  clear hl hsz hg1
  unfold secV
  have hq : ∀ w1 : World, Hid (Calls Try.prog 58 #[.agg (bvs l).toArray] w1 (OpTo w1 (openK l) (openL l) (openE l))) := fun w1 => open_any l w1 HL.out
  have hkk : Hid ((openB l && decide (l.getD 2 0 = k)) = (openB l && ((openK l).toNat : Int) == (k.toNat : Int))) := by
    unfold Hid openK
    cases openB l with
    | false => rfl
    | true =>
      simp only [Bool.true_and, if_true]
      rw [Bool.eq_iff_iff]; simp only [decide_eq_true_eq, beq_iff_eq, Int.natCast_inj]
      exact ⟨fun h => by rw [h], fun h => UInt8.toNat_inj.1 h⟩
  obtain ⟨kk, hkk'⟩ : ∃ kk, kk = openK l := ⟨_, rfl⟩
  rw [← hkk'] at hq hkk
  clear hkk'
  obtain ⟨oe, hoe⟩ : ∃ oe, oe = openE l := ⟨_, rfl⟩
  rw [← hoe] at hq
  go_enter Try.func22, Try.ntmps22
  rw [hkk.out]
  cases ho : openB l with
  | true =>
    obtain rfl : oe = 0 := by rw [hoe]; unfold openE; rw [ho]; rfl
    clear hoe ho hkk
    go_wp2_with (first
      | (refine wpList_load_row rfl 36 (.tmp 2) rfl w.heap.size rfl _ _ _ _ HG1.out Try.underlying36 rfl (by rw [HSZ.out]; exact size_sec) ?_)
      | (go_at_call 58; refine (hq _).out.mono ?_; rintro e w2 ⟨v, rfl, ho2, hb2⟩; have HB2 := Lib.hid hb2; clear ho2 hb2))
    go_ret
    exact ⟨by rw [Bool.true_and]; rfl, HB1.out.trans (HB2.out.mono (by simp))⟩
  | false =>
    obtain rfl : oe = 21 := by rw [hoe]; unfold openE; rw [ho]; rfl
    clear hoe ho hkk
    go_wp2_with (first
      | (refine wpList_load_row rfl 36 (.tmp 2) rfl w.heap.size rfl _ _ _ _ HG1.out Try.underlying36 rfl (by rw [HSZ.out]; exact size_sec) ?_)
      | (go_at_call 58; refine (hq _).out.mono ?_; rintro e w2 ⟨v, rfl, ho2, hb2⟩; have HB2 := Lib.hid hb2; clear ho2 hb2))
    go_ret
    exact ⟨by rw [Bool.false_and]; rfl, HB1.out.trans (HB2.out.mono (by simp))⟩
end Go.Proofs.Ytcpfafmkhegckaa
