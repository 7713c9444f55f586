/-
  The walk of SealMakes.
-/
import Derived.Test.YtljdgcchdmiadaaLaw02b
namespace Go.Proofs.Ytljdgcchdmiadaa
open Go.RowKit
set_option linter.unusedVariables false
set_option linter.unusedSimpArgs false
theorem heap_keep {w w' : World} {g : Nat} {o : Obj} (h : w.heap[g]? = some o) (hb : Below w.heap.size w w') : w'.heap[g]? = some o := (hb.block g (Array.getElem?_eq_some_iff.1 h).1).trans h
theorem below_drewN (w : World) (n : Nat) : Below w.heap.size w (w.drewN n) := bdrewN (Below.refl _ _) n
/-- What is known of a sector that lies in a block. -/
def SecAt (w : World) (g : Nat) (t : Nat) (l : List UInt8) : Prop := w.heap[g]? = some (.cells (bvs l).toArray t (0, 0))
theorem SecAt.keep {w w' : World} {g t : Nat} {l : List UInt8} (h : SecAt w g t l) (hb : Below w.heap.size w w') : SecAt w' g t l := heap_keep h hb
theorem makes_ok (kind : UInt8) : (((kind + 1 : UInt8).toNat : Nat) : Int) = ((kind.toNat : Int) + 1) % 256 := by
  rw [UInt8.toNat_add]; simp
theorem open_made (kind : UInt8) (l : List UInt8) (h : mayB kind l = true) : openB (makeS kind l) = true ∧ openK (makeS kind l) = kind ∧ openL (makeS kind l) = l ∧ openE (makeS kind l) = 0 ∧ (makeS kind l).getD 2 0 = kind := by
  have hl := ((mayB_iff _ _).1 h).2
  have e : makeS kind l = sealS kind l := by unfold makeS; rw [h]; rfl
  have ho := open_seal kind l h
  rw [e]
  refine ⟨ho, ?_, ?_, ?_, seal_at2 _ _⟩
  · unfold openK; rw [ho]; exact seal_at2 _ _
  · unfold openL; rw [ho]; exact bodyOf_seal _ _ hl
  · unfold openE; rw [ho]; rfl
set_option maxHeartbeats 1000000 in
set_option maxRecDepth 10000 in
theorem sealMakes_walk (kind : UInt8) (v : Value) (l : List UInt8) (w : World) (hn : l.length ≤ 140737488351232) (hv : Byt w v l) :
    Calls Try.prog 4 #[.int .u8 (kind.toNat : Int), v] w fun e w' => e = .returned (.bool true) ∧ Below w.heap.size w w' := by
  obtain ⟨A, c, rfl⟩ := byt_form hv
  have HV := Lib.hid hv
  have hz := zero_sec
  have hza := zero_arr
  clear hv
  go_enter Try.func4, Try.ntmps4
  go_upto_if 16 with (go_at_call 8; refine (awake02 _).mono ?_; rintro e w1 ⟨rfl, hb1⟩)
  have HV1 := Lib.hid (HV.out.below hb1)
  have HB1 := Lib.hid hb1
  clear hb1 HV
  go_cut [1] (fun v wc => ∃ l', l'.length ≤ 300 ∧ Byt w1 v l' ∧ w1 = wc)
  case first =>
    by_cases hlen : 300 < l.length
    · obtain ⟨hcap, hbyt⟩ := byt_cut HV1.out hlen
      have HQ := Lib.hid hbyt
      clear hbyt
      go_wp2
      go_meet
      case rel => exact ⟨_, by simp; omega, HQ.out, rfl⟩
    · go_wp2
      go_meet
      case rel => exact ⟨l, by omega, HV1.out, rfl⟩
  case rest =>
  obtain ⟨l', hl', hv', rfl⟩ := hcut
  clear HV1 hn
  obtain ⟨A', c', rfl⟩ := byt_form hv'
  have HL' := Lib.hid hl'
  have HY1 := Lib.hid hv'
  clear hl' hv'
  go_upto_region 6 with (go_at_call 11; refine (copy_any _ l' _ (by have := HL'.out; omega) HY1.out).mono ?_; rintro e w2 ⟨v2, rfl, ho2, hb2⟩)
  have HY2 := Lib.hid (HY1.out.below hb2)
  have HC2 := Lib.hid (own_byt ho2).1
  have HB2 := Lib.hid (bnext HB1.out hb2)
  clear ho2 hb2 HY1 HB1
  obtain ⟨A2, c2, rfl⟩ := byt_form HC2.out
  have HMK := Lib.hid (make_any kind _ l' w2 HY2.out)
  have hml := makeS_length kind l'
  obtain ⟨m, hm⟩ : ∃ m, m = makeS kind l' := ⟨_, rfl⟩
  obtain ⟨me, hme⟩ : ∃ me, me = makeE kind l' := ⟨_, rfl⟩
  rw [← hm, ← hme] at HMK
  rw [← hm] at hml
  have HML := Lib.hid hml
  have HM := Lib.hid hm
  have HME := Lib.hid hme
  have HMS : Hid ((bvs m).toArray.size = 128) := by unfold Hid; rw [secV_size, hml]
  clear hm hme hml
  unfold secV at HMK
  go_upto_region 7 with (first
    | (go_at_call 12; refine HMK.out.mono ?_; rintro e w3 ⟨rfl, h3⟩; have HB3 := Lib.hid h3; clear h3)
    | (refine wpList_store_row rfl 30 (.tmp 6) (.tmp 25) rfl w3.heap.size zArr (bvs m).toArray 30 rfl rfl (heap_alloc_last _ _) (by rw [HMS.out]; exact size_sec) (by rw [HMS.out, zArr_size]) (sec_one _) ?_))
  rw [World.setRow_alloc_new]
  have hS4 : SecAt (w3.alloc (.cells (bvs m).toArray 30 (0, 0))) w3.heap.size 30 m := heap_alloc_last w3 _
  have hB4 : Below w2.heap.size w2 (w3.alloc (.cells (bvs m).toArray 30 (0, 0))) := HB3.out.alloc HB3.out.size _
  revert hS4 hB4
  generalize w3.alloc (.cells (bvs m).toArray 30 (0, 0)) = w4
  intro hS4 hB4
  have HY4 := Lib.hid (HY2.out.below hB4)
  have HC4 := Lib.hid (HC2.out.below hB4)
  have HB4 := Lib.hid (bnext HB2.out hB4)
  have HS4 := Lib.hid hS4
  have HRM := Lib.hid (rmake_any kind _ l' w4 HY4.out)
  rw [← HM.out] at HRM
  clear hS4 hB4 HB3 HMK HY2 HC2 HB2
  unfold secV at HRM
  go_upto_region 8 with (first
    | (go_at_call 13; refine HRM.out.mono ?_; rintro e w5 ⟨rfl, h5⟩; have HB5 := Lib.hid h5; clear h5)
    | (refine wpList_store_row rfl 29 (.tmp 8) (.tmp 31) rfl w5.heap.size zArr (bvs m).toArray 29 rfl rfl (heap_alloc_last _ _) (by rw [HMS.out]; exact size_arr) (by rw [HMS.out, zArr_size]) (sec_one _) ?_))
  rw [World.setRow_alloc_new]
  have hS6 : SecAt (w5.alloc (.cells (bvs m).toArray 29 (0, 0))) w5.heap.size 29 m := heap_alloc_last w5 _
  have hB6 : Below w4.heap.size w4 (w5.alloc (.cells (bvs m).toArray 29 (0, 0))) := HB5.out.alloc HB5.out.size _
  revert hS6 hB6
  generalize w5.alloc (.cells (bvs m).toArray 29 (0, 0)) = w6
  intro hS6 hB6
  have HY6 := Lib.hid (HY4.out.below hB6)
  have HC6 := Lib.hid (HC4.out.below hB6)
  have HB6 := Lib.hid (bnext HB4.out hB6)
  have HT6 := Lib.hid (HS4.out.keep hB6)
  have HS6 := Lib.hid hS6
  have HEQ := Lib.hid (equal_any _ _ l' l' w6 (by have := HL'.out; omega) (by have := HL'.out; omega) HY6.out HC6.out)
  rw [decide_eq_true (show l' = l' from rfl)] at HEQ
  have heq : ∀ W : World, (Op.equalIn 10000 30 (.agg (bvs m).toArray) (.agg (bvs m).toArray)).run Try.prog W = .ok true W := fun W => by have q := equal_sector W m m HML.out HML.out; rw [decide_eq_true (show m = m from rfl)] at q; exact q
  clear hS6 hB6 HB5 HRM HY4 HC4 HB4 HS4
  cases hmb : mayB kind l' with
  | false =>
    obtain rfl : me = 1 := by rw [HME.out]; unfold makeE; rw [hmb]; rfl
    go_wp2_with (first
      | (refine wpList_load_row_g rfl 30 (.tmp 6) rfl w3.heap.size rfl _ _ _ _ HT6.out Try.underlying30 rfl (by rw [HMS.out]; exact size_sec) ?_)
      | (refine wpList_load_row_g rfl 29 (.tmp 8) rfl w5.heap.size rfl _ _ _ _ HS6.out Try.underlying29 rfl (by rw [HMS.out]; exact size_arr) ?_)
      | (go_at_call 14; refine HEQ.out.mono ?_; rintro e w7 ⟨rfl, nn, rfl⟩))
    go_ret
    exact ⟨rfl, bdrewN HB6.out _⟩
  | true =>
    obtain rfl : me = 0 := by rw [HME.out]; unfold makeE; rw [hmb]; rfl
    go_upto_region 12 with (first
      | (refine wpList_load_row_g rfl 30 (.tmp 6) rfl w3.heap.size rfl _ _ _ _ HT6.out Try.underlying30 rfl (by rw [HMS.out]; exact size_sec) ?_)
      | (refine wpList_load_row_g rfl 29 (.tmp 8) rfl w5.heap.size rfl _ _ _ _ HS6.out Try.underlying29 rfl (by rw [HMS.out]; exact size_arr) ?_)
      | (go_at_call 14; refine HEQ.out.mono ?_; rintro e w7 ⟨rfl, nn, rfl⟩))
    have hB7 := below_drewN w6 nn
    have HY7 := Lib.hid (HY6.out.below hB7)
    have HT7 := Lib.hid (HT6.out.keep hB7)
    have HB7 := Lib.hid (bnext HB6.out hB7)
    clear hB7 heq HEQ HY6 HC6 HT6 HS6 HB6
    revert HY7 HT7 HB7
    generalize w6.drewN nn = w7
    intro HY7 HT7 HB7
    obtain ⟨o1, o2, o3, o4, o5⟩ := open_made kind l' hmb
    rw [← HM.out] at o1 o2 o3 o4 o5
    have hop := open_any m w7 HML.out
    rw [o2, o3, o4] at hop
    have HOP := Lib.hid hop
    have HI1 : ∀ w' : World, Hid (Calls Try.prog 16 #[.agg (bvs m).toArray, .int .u8 (kind.toNat : Int)] w' fun e w'' => e = .returned (.bool true) ∧ Below w'.heap.size w' w'') := fun w' => by
      have q := is_any m kind w' HML.out
      rw [o1, o5, decide_eq_true (show kind = kind from rfl)] at q
      exact q
    have HI2 : ∀ w' : World, Hid (Calls Try.prog 16 #[.agg (bvs m).toArray, .int .u8 (((kind.toNat : Int) + 1) % 256)] w' fun e w'' => e = .returned (.bool false) ∧ Below w'.heap.size w' w'') := fun w' => by
      have q := is_any m (kind + 1) w' HML.out
      rw [o1, o5, decide_eq_false (show ¬ kind = kind + 1 by intro h; have h2 := congrArg UInt8.toNat h; rw [UInt8.toNat_add] at h2; have := kind.toNat_lt; simp at h2; omega), makes_ok] at q
      exact q
    clear hop o1 o2 o3 o4 o5
    unfold secV at HOP
    have hkk : ((kind.toNat : Int) == (kind.toNat : Int)) = true := by simp
    go_wp2_with (first
      | (refine wpList_load_row rfl 30 (.tmp 6) rfl w3.heap.size rfl _ _ _ _ HT7.out Try.underlying30 rfl (by rw [HMS.out]; exact size_sec) ?_)
      | (go_at_call 15; refine HOP.out.mono ?_; rintro e w8 ⟨v8, rfl, ho8, hb8⟩; have HO8 := Lib.hid (own_byt ho8).1; have HY8 := Lib.hid (HY7.out.below hb8); have HT8 := Lib.hid (HT7.out.keep hb8); have HB8 := Lib.hid (bnext HB7.out hb8); clear ho8 hb8; have HEQ := Lib.hid (equal_any _ _ l' l' w8 (by have := HL'.out; omega) (by have := HL'.out; omega) HO8.out HY8.out); rw [decide_eq_true (show l' = l' from rfl)] at HEQ)
      | (go_at_call 14; refine HEQ.out.mono ?_; rintro e w9 ⟨rfl, n9, rfl⟩; have hB9 := below_drewN w8 n9; have HT9 := Lib.hid (HT8.out.keep hB9); have HB9 := Lib.hid (bnext HB8.out hB9); clear hB9)
      | (refine wpList_load_row_g rfl 30 (.tmp 6) rfl w3.heap.size rfl _ _ _ _ HT9.out Try.underlying30 rfl (by rw [HMS.out]; exact size_sec) ?_)
      | (have q := HB10; clear q; go_at_call 16; refine (HI2 _).out.mono ?_; rintro e w11 ⟨rfl, h11⟩; have HB11 := Lib.hid (bnext HB10.out h11); clear h11)
      | (go_at_call 16; refine (HI1 _).out.mono ?_; rintro e w10 ⟨rfl, h10⟩; have HT10 := Lib.hid (HT9.out.keep h10); have HB10 := Lib.hid (bnext HB9.out h10); clear h10 HT9)
      | (refine wpList_load_row_g rfl 30 (.tmp 6) rfl w3.heap.size rfl _ _ _ _ HT10.out Try.underlying30 rfl (by rw [HMS.out]; exact size_sec) ?_))
    go_ret
    exact ⟨rfl, HB11.out⟩
end Go.Proofs.Ytljdgcchdmiadaa
