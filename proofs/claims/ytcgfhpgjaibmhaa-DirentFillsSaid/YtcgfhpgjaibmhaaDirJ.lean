/-
  A block of a directory is read: the walk of dirent.Read.
-/
import Derived.Test.YtcgfhpgjaibmhaaDirI
import Derived.Test.YtcgfhpgjaibmhaaReader
namespace Go.Proofs.Ytcgfhpgjaibmhaa
open Go.RowKit
set_option linter.unusedVariables false
set_option linter.unusedSimpArgs false
theorem d_part_one (l : List UInt8) (a : Nat) (h : a < l.length) : part l a 1 = (l.getD a 0).toNat := by
  have := part_succ l a 0 (by simpa using h)
  rw [part_zero] at this
  simpa using this
theorem d_rNum_at (l : List UInt8) (a k : Nat) (h1 : 1 ≤ k) (h8 : k ≤ 8) (h : a + k ≤ 128) : rNum ⟨l, a, 0⟩ (k : Int) = (⟨l, a + k, 0⟩, part l a k) := by
  have : fitsB 128 a (k : Int) = true := (fitsB_iff _ _ _).2 (by omega)
  simp [rNum, this]
theorem d_rBytes_at (l : List UInt8) (a k : Nat) (h : a + k ≤ 128) : rBytes ⟨l, a, 0⟩ (k : Int) = (⟨l, a + k, 0⟩, (l.drop a).take k) := by
  unfold rBytes; rw [if_pos rfl, if_neg (by simp; omega)]; simp
theorem keep_only {g p : Nat} {a b : World} {o : Obj} (h : OnlyAt g a b) (hne : p ≠ g) (hp : a.heap[p]? = some o) : b.heap[p]? = some o := (h.1.block p (Array.getElem?_eq_some_iff.1 hp).1 (by simp; exact hne)).trans hp
theorem keep_grown {g p : Nat} {a b : World} {o : Obj} (h : a.grownBy b (some g)) (hne : p ≠ g) (hp : a.heap[p]? = some o) : b.heap[p]? = some o := (h.block p (Array.getElem?_eq_some_iff.1 hp).1 (by simp; exact hne)).trans hp
theorem grown_belowB {g B : Nat} {a b : World} (h : a.grownBy b (some g)) (hB : B ≤ g) (hs : B ≤ a.heap.size) : Below B a b := ⟨h.os, h.tape, h.output, h.size, fun k hk => h.block k (by omega) (by simp; omega)⟩
def dzE (l : List UInt8) (j : Nat) : Nat := (l.getD (32 * j + 2) 0).toNat
def dmE (l : List UInt8) (j : Nat) : Nat := part l (32 * j) 2
def dtE (l : List UInt8) (j : Nat) : ByteArray := ⟨((l.drop (32 * j + 3)).take (dzE l j)).toArray⟩
def rdEs (l : List UInt8) : List Ent := [((dmE l 0 : Nat), dtE l 0), ((dmE l 1 : Nat), dtE l 1), ((dmE l 2 : Nat), dtE l 2), ((dmE l 3 : Nat), dtE l 3)]
def rdSz (l : List UInt8) : Bool := decide (dzE l 0 ≤ 29 ∧ dzE l 1 ≤ 29 ∧ dzE l 2 ≤ 29 ∧ dzE l 3 ≤ 29)
def drB (l : List UInt8) : Bool := rdSz l && (entsOk (rdEs l) && decide (entsB (rdEs l) 4 = l))
def zEnts : List Ent := [(0, .empty), (0, .empty), (0, .empty), (0, .empty)]
def drL (l : List UInt8) : List Ent := if drB l then rdEs l else zEnts
def drE (l : List UInt8) : Int := if drB l then 0 else 21
def drV (l : List UInt8) : Value := entsV (eAt (drL l) 0) (eAt (drL l) 1) (eAt (drL l) 2) (eAt (drL l) 3)
def zCells : Array Value := #[.int .i64 0, .string ⟨#[]⟩, .int .i64 0, .string ⟨#[]⟩, .int .i64 0, .string ⟨#[]⟩, .int .i64 0, .string ⟨#[]⟩]
theorem dr_no {l : List UInt8} (h : drB l = false) : drV l = .agg zCells ∧ drE l = 21 := by unfold drV drE drL; rw [h]; exact ⟨rfl, rfl⟩
theorem dr_yes {l : List UInt8} (h : drB l = true) : drV l = .agg (mixA (dmE l 0) (dmE l 1) (dmE l 2) (dmE l 3) (dtE l 0) (dtE l 1) (dtE l 2) (dtE l 3) 4) ∧ drE l = 0 := by unfold drV drE drL; rw [h]; exact ⟨rfl, rfl⟩
theorem d_equal_sector (w : World) (xs ys : List UInt8) (hx : xs.length = 128) (hy : ys.length = 128) : (Op.equalIn 10000 37 (secV xs) (secV ys)).run Try.prog w = .ok (decide (xs = ys)) w :=
  (have h : ∃ i, Try.prog.info? 5 = some i := by
    cases hi : Try.prog.info? 5 with
    | none => have := infoU8; rw [hi] at this; cases this
    | some i => exact ⟨i, rfl⟩
   let ⟨i, hi⟩ := h
   equal_sec Try.underlying37 hi (by kernel_rfl) (by kernel_rfl) Try.underlying5 w xs ys hx hy)
theorem built_ents : Try.prog.built 31 [] = some zCells := by kernel_rfl
theorem dread_end {w w' : World} {l : List UInt8} {cs zs : Array Value} {n : Int} (hT : w'.heap[w.heap.size + 1]? = some (.cells zs 31 (0, 0))) (h8 : cs.size = 8)
    (h1 : Value.agg cs = drV l) (h2 : n = drE l) (hb : Below w.heap.size w w') {a' : Act} (hr : a'.tmps.getD 2 undef = .pointer (some ⟨w.heap.size + 1, 0, none⟩)) (h3 : a'.tmps.getD 3 undef = .int .i64 n) (hd : a'.defers = []) :
    bodyPost Try.prog Try.f17 (fun e w' => e = .returned (.tuple #[drV l, .int .i64 (drE l)]) ∧ Below w.heap.size w w') .ret a' (w'.setRow (w.heap.size + 1) cs) := by
  have hld := run_loadVar_row (P := Try.prog) (w'.setRow (w.heap.size + 1) cs) (w.heap.size + 1) 31 31 cs (0, 0) _ (setRow_heap _ _ _ _ _ _ hT) Try.underlying31 (by simp) (by rw [h8]; exact size_ents)
  refine bodyPost_ret (v := .tuple #[.agg cs, .int .i64 n]) (results_cell2 Try.results17 hr h3 hld) hd ⟨by rw [h1, h2], ?_⟩
  exact hb.trans ⟨rfl, rfl, rfl, by rw [setRow_size]; exact Nat.le_refl _, fun k hk => setRow_other _ _ _ _ (by omega)⟩
set_option maxHeartbeats 8000000 in
set_option maxRecDepth 10000 in
theorem dread_any (l : List UInt8) (w : World) (hl : l.length = 128) :
    Calls Try.prog 17 #[secV l] w fun e w' => e = .returned (.tuple #[drV l, .int .i64 (drE l)]) ∧ Below w.heap.size w w' := by
  have HL := Lib.hid hl
  have hz := zero_sec
  have HSZ : Hid ((bvs l).toArray.size = 128) := by unfold Hid; rw [secV_size, hl]
  have hRD := fun w' => nread_any l w' hl
  have HRD := fun w' => Lib.hid (hRD w')
  obtain ⟨m0, hm0⟩ : ∃ m, m = dmE l 0 := ⟨_, rfl⟩
  obtain ⟨m1, hm1⟩ : ∃ m, m = dmE l 1 := ⟨_, rfl⟩
  obtain ⟨m2, hm2⟩ : ∃ m, m = dmE l 2 := ⟨_, rfl⟩
  obtain ⟨m3, hm3⟩ : ∃ m, m = dmE l 3 := ⟨_, rfl⟩
  obtain ⟨t0, ht0⟩ : ∃ t, t = dtE l 0 := ⟨_, rfl⟩
  obtain ⟨t1, ht1⟩ : ∃ t, t = dtE l 1 := ⟨_, rfl⟩
  obtain ⟨t2, ht2⟩ : ∃ t, t = dtE l 2 := ⟨_, rfl⟩
  obtain ⟨t3, ht3⟩ : ∃ t, t = dtE l 3 := ⟨_, rfl⟩
  have HM : Hid (m0 = dmE l 0 ∧ m1 = dmE l 1 ∧ m2 = dmE l 2 ∧ m3 = dmE l 3) := ⟨hm0, hm1, hm2, hm3⟩
  have HT : Hid (t0 = dtE l 0 ∧ t1 = dtE l 1 ∧ t2 = dtE l 2 ∧ t3 = dtE l 3) := ⟨ht0, ht1, ht2, ht3⟩
  clear hRD hl hm0 hm1 hm2 hm3 ht0 ht1 ht2 ht3
  unfold secV at HRD ⊢
  go_enter Try.func17, Try.ntmps17
  go_upto_region 2 with fail
  have hg0 := heap_alloc_last w (.cells (bvs l).toArray 37 (0, 0))
  have hT1 := heap_alloc_last (w.alloc (.cells (bvs l).toArray 37 (0, 0))) (.cells #[.int .i64 0, .string ⟨#[]⟩, .int .i64 0, .string ⟨#[]⟩, .int .i64 0, .string ⟨#[]⟩, .int .i64 0, .string ⟨#[]⟩] 31 (0, 0))
  rw [show (w.alloc (.cells (bvs l).toArray 37 (0, 0))).heap.size = w.heap.size + 1 by simp] at hT1
  have hP1 := heap_alloc_last ((w.alloc (.cells (bvs l).toArray 37 (0, 0))).alloc (.cells #[.int .i64 0, .string ⟨#[]⟩, .int .i64 0, .string ⟨#[]⟩, .int .i64 0, .string ⟨#[]⟩, .int .i64 0, .string ⟨#[]⟩] 31 (0, 0))) (.cells #[.int .i64 0, .string ⟨#[]⟩, .int .i64 0, .string ⟨#[]⟩, .int .i64 0, .string ⟨#[]⟩, .int .i64 0, .string ⟨#[]⟩] 31 (0, 0))
  rw [show ((w.alloc (.cells (bvs l).toArray 37 (0, 0))).alloc (.cells #[.int .i64 0, .string ⟨#[]⟩, .int .i64 0, .string ⟨#[]⟩, .int .i64 0, .string ⟨#[]⟩, .int .i64 0, .string ⟨#[]⟩] 31 (0, 0))).heap.size = w.heap.size + 1 + 1 by simp] at hP1
  have hg1 := heap_keep hg0 (((Below.refl (w.alloc (.cells (bvs l).toArray 37 (0, 0))).heap.size (w.alloc (.cells (bvs l).toArray 37 (0, 0)))).alloc (Nat.le_refl _) (.cells #[.int .i64 0, .string ⟨#[]⟩, .int .i64 0, .string ⟨#[]⟩, .int .i64 0, .string ⟨#[]⟩, .int .i64 0, .string ⟨#[]⟩] 31 (0, 0))).alloc (by simp) (.cells #[.int .i64 0, .string ⟨#[]⟩, .int .i64 0, .string ⟨#[]⟩, .int .i64 0, .string ⟨#[]⟩, .int .i64 0, .string ⟨#[]⟩] 31 (0, 0)))
  have hT2 := heap_keep hT1 ((Below.refl _ _).alloc (Nat.le_refl _) (.cells #[.int .i64 0, .string ⟨#[]⟩, .int .i64 0, .string ⟨#[]⟩, .int .i64 0, .string ⟨#[]⟩, .int .i64 0, .string ⟨#[]⟩] 31 (0, 0)))
  have hB : Below w.heap.size w (((w.alloc (.cells (bvs l).toArray 37 (0, 0))).alloc (.cells #[.int .i64 0, .string ⟨#[]⟩, .int .i64 0, .string ⟨#[]⟩, .int .i64 0, .string ⟨#[]⟩, .int .i64 0, .string ⟨#[]⟩] 31 (0, 0))).alloc (.cells #[.int .i64 0, .string ⟨#[]⟩, .int .i64 0, .string ⟨#[]⟩, .int .i64 0, .string ⟨#[]⟩, .int .i64 0, .string ⟨#[]⟩] 31 (0, 0))) := (((Below.refl _ _).alloc (Nat.le_refl _) _).alloc (by simp) _).alloc (by simp; omega) _
  have hs : (((w.alloc (.cells (bvs l).toArray 37 (0, 0))).alloc (.cells #[.int .i64 0, .string ⟨#[]⟩, .int .i64 0, .string ⟨#[]⟩, .int .i64 0, .string ⟨#[]⟩, .int .i64 0, .string ⟨#[]⟩] 31 (0, 0))).alloc (.cells #[.int .i64 0, .string ⟨#[]⟩, .int .i64 0, .string ⟨#[]⟩, .int .i64 0, .string ⟨#[]⟩, .int .i64 0, .string ⟨#[]⟩] 31 (0, 0))).heap.size = w.heap.size + 3 := by simp
  revert hg1 hT2 hP1 hB hs
  clear hg0 hT1
  generalize ((w.alloc (.cells (bvs l).toArray 37 (0, 0))).alloc (.cells #[.int .i64 0, .string ⟨#[]⟩, .int .i64 0, .string ⟨#[]⟩, .int .i64 0, .string ⟨#[]⟩, .int .i64 0, .string ⟨#[]⟩] 31 (0, 0))).alloc (.cells #[.int .i64 0, .string ⟨#[]⟩, .int .i64 0, .string ⟨#[]⟩, .int .i64 0, .string ⟨#[]⟩, .int .i64 0, .string ⟨#[]⟩] 31 (0, 0)) = w1
  generalize hp4 : w.heap.size + 1 + 1 = p4
  intro hP1 hg1 hT2 hB hs
  have HG1 := Lib.hid hg1
  have HT1 := Lib.hid hT2
  have HP1 := Lib.hid hP1
  have HB1 := Lib.hid hB
  have HS1 := Lib.hid hs
  have HP4 := Lib.hid hp4
  clear hg1 hT2 hP1 hB hs hp4
  go_upto_region 3 with (first
    | (refine wpList_load_row rfl 37 (.tmp 1) rfl w.heap.size rfl _ _ _ _ HG1.out Try.underlying37 rfl (by rw [HSZ.out]; exact size_sec) ?_)
    | (go_at_call 30; go_must (refine (HRD _).out.mono ?_; rintro e w2 ⟨g, rfl, hg, hR2, hB2⟩; have HR2 := Lib.hid hR2; have HGE : Hid (p4 < g ∧ w1.heap.size ≤ g) := ⟨by have h1 := HS1.out; have h2 := HP4.out; omega, hg⟩; have HB2 := Lib.hid hB2; clear hR2 hg hB2)))
  have HG2 := Lib.hid (heap_keep HG1.out HB2.out)
  have HT2 := Lib.hid (heap_keep HT1.out HB2.out)
  have HP2 := Lib.hid (heap_keep HP1.out HB2.out)
  have HBW := Lib.hid (bnext HB1.out HB2.out)
  clear HRD HG1 HT1 HP1 HB1
  go_wp2
  go_loopw [3, 6, 7, 8, 9, 14] (fun b _ _ _ _ i wr => ∃ j : Nat, j ≤ 4 ∧ i = .int .i64 j ∧ b = .int .i64 0 ∧ Hid (RdrAt wr g ⟨l, 32 * j, 0⟩) ∧ Hid (wr.heap[p4]? = some (.cells (mixA m0 m1 m2 m3 t0 t1 t2 t3 j) 31 (0, 0))) ∧ Hid (Below p4 w2 wr) ∧ Hid (∀ i, i < j → dzE l i ≤ 29)) (fun _ _ _ _ _ i _ => (4 - intOf i).toNat)
  case atStart => exact ⟨0, by omega, by rfl, rfl, HR2, HP2, Lib.hid (Below.refl _ _), Lib.hid (fun i h => by omega)⟩
  case round =>
    obtain ⟨j, hj, rfl, rfl, HR, HP, HB, HSM⟩ := hrel
    by_cases hj4 : j = 4
    · subst hj4
      go_upto_region 12 with fail
      have HTT := Lib.hid ((HB.out.block (w.heap.size + 1) (by have := HP4.out; omega)).trans HT2.out)
      have HGG := Lib.hid ((HB.out.block w.heap.size (by have := HP4.out; omega)).trans HG2.out)
      have HBF := Lib.hid (HBW.out.trans (HB.out.mono (by have := HP4.out; omega)))
      have hes : rdEs l = [((m0 : Int), t0), ((m1 : Int), t1), ((m2 : Int), t2), ((m3 : Int), t3)] := by
        obtain ⟨a0, a1, a2, a3⟩ := HM.out
        obtain ⟨b0, b1, b2, b3⟩ := HT.out
        unfold rdEs; rw [a0, a1, a2, a3, b0, b1, b2, b3]
      have hsz : rdSz l = true := by unfold rdSz; exact decide_eq_true ⟨HSM.out 0 (by decide), HSM.out 1 (by decide), HSM.out 2 (by decide), HSM.out 3 (by decide)⟩
      have hdr : drB l = (entsOk (rdEs l) && decide (dwS (rdEs l) = l)) := by
        unfold drB; rw [hsz, Bool.true_and]
        cases h : entsOk (rdEs l) with
        | true => unfold dwS; rw [h]; rfl
        | false => rfl
      have HW := Lib.hid (dwrite_any (m0 : Int) (m1 : Int) (m2 : Int) (m3 : Int) t0 t1 t2 t3 wr)
      rw [← hes] at HW
      have hml : (dwS (rdEs l)).length = 128 := by
        unfold dwS
        cases h : entsOk (rdEs l) with
        | true => exact dw_len _ h
        | false => simp
      have hde : dwE (rdEs l) = if entsOk (rdEs l) then 0 else 1 := rfl
      obtain ⟨m, hm⟩ : ∃ m, m = dwS (rdEs l) := ⟨_, rfl⟩
      obtain ⟨me, hme⟩ : ∃ me, me = dwE (rdEs l) := ⟨_, rfl⟩
      rw [← hm, ← hme] at HW
      rw [← hm] at hdr hml
      have HMS : Hid ((bvs m).toArray.size = 128) := by unfold Hid; rw [secV_size, hml]
      have heq : ∀ W : World, (Op.equalIn 10000 37 (.agg (bvs m).toArray) (.agg (bvs l).toArray)).run Try.prog W = .ok (decide (m = l)) W := fun W => d_equal_sector W m l hml HL.out
      have HDR := Lib.hid hdr
      have HME := Lib.hid (hme.trans hde)
      have HCS : Hid ((mixA m0 m1 m2 m3 t0 t1 t2 t3 4).size = 8) := rfl
      have HC1 : Hid ((mixA m0 m1 m2 m3 t0 t1 t2 t3 4).all (·.oneCell') = true) := by unfold Hid; simp [mixA, Value.oneCell']
      clear hes hsz hdr hml hde hm hme
      unfold secV entsV at HW
      go_upto_region 13 with (first
        | (refine wpList_load_row rfl 31 (.tmp 4) rfl p4 rfl _ _ _ _ HP.out Try.underlying31 rfl (by rw [HCS.out]; exact size_ents) ?_)
        | (go_at_call 15; go_must (refine HW.out.mono ?_; rintro e w8 ⟨rfl, hb8⟩; have HB8 := Lib.hid hb8; clear hb8))
        | (refine wpList_store_row rfl 37 (.tmp 10) (.tmp 42) rfl w8.heap.size zArr (bvs m).toArray 37 rfl rfl (heap_alloc_last _ _) (by rw [HMS.out]; exact size_sec) (by rw [HMS.out, zArr_size]) (sec_one _) ?_))
      rw [World.setRow_alloc_new]
      have hS := heap_alloc_last w8 (.cells (bvs m).toArray 37 (0, 0))
      have hb9 : Below wr.heap.size wr (w8.alloc (.cells (bvs m).toArray 37 (0, 0))) := HB8.out.alloc HB8.out.size _
      have hT9 := heap_keep HTT.out hb9
      have hG9 := heap_keep HGG.out hb9
      have hP9 := heap_keep HP.out hb9
      have hB9 := bnext HBF.out hb9
      clear hb9 HW HB8
      revert hS hT9 hG9 hP9 hB9
      generalize w8.alloc (.cells (bvs m).toArray 37 (0, 0)) = w9
      generalize w8.heap.size = p10
      intro hS hT9 hG9 hP9 hB9
      have HS := Lib.hid hS
      have HT9 := Lib.hid hT9
      have HG9 := Lib.hid hG9
      have HP9 := Lib.hid hP9
      have HB9 := Lib.hid hB9
      clear hS hT9 hG9 hP9 hB9
      cases hok : entsOk (rdEs l) with
      | false =>
        rw [hok] at HDR HME
        obtain rfl : me = 1 := HME.out
        have HNO : Hid (drB l = false) := HDR.out
        clear HDR HME hok
        go_wp2_with (first
          | (refine wpList_build_at rfl 31 _ rfl [] (by simp) zCells built_ents ?_)
          | (refine wpList_store_row rfl 31 (.tmp 2) (.tmp 51) rfl (w.heap.size + 1) _ zCells 31 rfl rfl HT9.out size_ents rfl (by simp [zCells, Value.oneCell']) ?_))
        exact dread_end HT9.out rfl (dr_no HNO.out).1.symm (dr_no HNO.out).2.symm HB9.out rfl rfl rfl
      | true =>
        rw [hok, Bool.true_and] at HDR
        rw [hok] at HME
        obtain rfl : me = 0 := HME.out
        clear HME hok
        go_wp2_with (first
          | (refine wpList_load_row_g rfl 37 (.tmp 10) rfl p10 rfl _ _ _ _ HS.out Try.underlying37 rfl (by rw [HMS.out]; exact size_sec) ?_)
          | (refine wpList_load_row_g rfl 37 (.tmp 1) rfl w.heap.size rfl _ _ _ _ HG9.out Try.underlying37 rfl (by rw [HSZ.out]; exact size_sec) ?_)
          | (refine wpList_build_at rfl 31 _ rfl [] (by simp) zCells built_ents ?_)
          | (refine wpList_store_row rfl 31 (.tmp 2) (.tmp 51) rfl (w.heap.size + 1) _ zCells 31 rfl rfl HT9.out size_ents rfl (by simp [zCells, Value.oneCell']) ?_)
          | (refine wpList_load_row rfl 31 (.tmp 4) rfl p4 rfl _ _ _ _ HP9.out Try.underlying31 rfl (by rw [HCS.out]; exact size_ents) ?_)
          | (refine wpList_store_row rfl 31 (.tmp 2) (.tmp 52) rfl (w.heap.size + 1) _ (mixA m0 m1 m2 m3 t0 t1 t2 t3 4) 31 rfl rfl HT9.out (by rw [HCS.out]; exact size_ents) rfl HC1.out ?_))
        · rename_i hq
          have HNO : drB l = false := by rw [HDR.out]; simpa using hq
          exact dread_end HT9.out rfl (dr_no HNO).1.symm (dr_no HNO).2.symm HB9.out rfl rfl rfl
        · rename_i hq
          have HYES : drB l = true := by rw [HDR.out]; simpa using hq
          refine dread_end HT9.out HCS.out ?_ (dr_yes HYES).2.symm HB9.out rfl rfl rfl
          rw [(dr_yes HYES).1, ← HM.out.1, ← HM.out.2.1, ← HM.out.2.2.1, ← HM.out.2.2.2, ← HT.out.1, ← HT.out.2.1, ← HT.out.2.2.1, ← HT.out.2.2.2]
    · have hjc : j = 0 ∨ j = 1 ∨ j = 2 ∨ j = 3 := by omega
      rcases hjc with rfl | rfl | rfl | rfl
      · have q1 := d_rNum_at l 0 2 (by decide) (by decide) (by decide)
        have q2 := d_rNum_at l 2 1 (by decide) (by decide) (by decide)
        have q3 := d_rBytes_at l 3 29 (by decide)
        rw [d_part_one l 2 (by rw [HL.out]; decide)] at q2
        have hmj : part l 0 2 = m0 := HM.out.1.symm
        rw [hmj] at q1
        have hml : m0 < 65536 := by rw [← hmj]; exact part_lt l 0 2
        obtain ⟨z, hzz⟩ : ∃ z, z = dzE l 0 := ⟨_, rfl⟩
        have hz256 : z < 256 := by rw [hzz]; exact UInt8.toNat_lt _
        have hzB : (l.getD 2 0).toNat = z := hzz.symm
        rw [hzB] at q2
        obtain ⟨nm, hnm⟩ : ∃ nm, nm = (l.drop 3).take 29 := ⟨_, rfl⟩
        rw [← hnm] at q3
        have hnl : nm.length = 29 := by rw [hnm]; simp only [List.length_take, List.length_drop, HL.out]; omega
        have HN1 : Hid (∀ w', RdrAt w' g ⟨l, 0, 0⟩ → Calls Try.prog 31 #[.pointer (some ⟨g, 0, none⟩), .int .i64 2] w' (RdTo w' g ⟨l, 2, 0⟩ (.int .u64 (m0 : Int)))) := fun w' h => by have q := rdnum_any g ⟨l, 0, 0⟩ ((2 : Nat) : Int) w' h; rw [q1] at q; exact q
        have HN2 : Hid (∀ w', RdrAt w' g ⟨l, 2, 0⟩ → Calls Try.prog 31 #[.pointer (some ⟨g, 0, none⟩), .int .i64 1] w' (RdTo w' g ⟨l, 3, 0⟩ (.int .u64 (z : Int)))) := fun w' h => by have q := rdnum_any g ⟨l, 2, 0⟩ ((1 : Nat) : Int) w' h; rw [q2] at q; exact q
        have HN3 : Hid (∀ w', RdrAt w' g ⟨l, 3, 0⟩ → Calls Try.prog 32 #[.pointer (some ⟨g, 0, none⟩), .int .i64 29] w' (RdOwn w' g ⟨l, 32, 0⟩ nm)) := fun w' h => by have q := rdbytes_any g ⟨l, 3, 0⟩ ((29 : Nat) : Int) w' h; rw [q3] at q; exact q
        have HNM := Lib.hid hnm
        have HNL := Lib.hid hnl
        have HZZ := Lib.hid hzz
        have HML := Lib.hid hml
        have hw1 : wrap64 (m0 : Int) = (m0 : Int) := by rw [← i64_w]; exact IntWalk.i64_in _ (by omega)
        have hw2 : wrap64 (z : Int) = (z : Int) := by rw [← i64_w]; exact IntWalk.i64_in _ (by omega)
        clear q1 q2 q3 hmj hml hzz hzB hnm hnl
        go_upto_region 8 with (first
          | (have q := d1; clear q; go_at_call 31; go_must (refine (HN2.out _ HR3.out).mono ?_; rintro e w4 ⟨rfl, h41, h42⟩; have HR4 := Lib.hid h41; have HP4' := Lib.hid (keep_only h42 (by have := HGE.out.1; omega) HP3.out); have HB4 := Lib.hid (HB3.out.trans (only_below h42 (by have := HGE.out.1; omega))); clear h41 h42))
          | (go_at_call 31; go_must (refine (HN1.out _ HR.out).mono ?_; rintro e w3 ⟨rfl, h31, h32⟩; have HR3 := Lib.hid h31; have HP3 := Lib.hid (keep_only h32 (by have := HGE.out.1; omega) HP.out); have HB3 := Lib.hid (HB.out.trans (only_below h32 (by have := HGE.out.1; omega))); have d1 : True := trivial; clear h31 h32))
          | (go_at_call 32; go_must (refine (HN3.out _ HR4.out).mono ?_; rintro e w5 ⟨v5, rfl, h51, h52, h53⟩; have HO5 := Lib.hid h51; have HR5 := Lib.hid h52; have HP5 := Lib.hid (keep_grown h53 (by have := HGE.out.1; omega) HP4'.out); have HB5 := Lib.hid (HB4.out.trans (grown_belowB h53 (by have := HGE.out.1; omega) (Nat.le_of_lt (Array.getElem?_eq_some_iff.1 HP4'.out).1))); clear h51 h52 h53)))
        have hby : ∃ b o c, v5 = .slice (some ⟨b, o, none⟩) 29 c ∧ 29 ≤ c ∧ RdB w5 b o nm := by
          rcases (own_byt HO5.out).1 with ⟨h', _⟩ | ⟨b, o, c, he, h2, h3, h4⟩
          · have := HNL.out; rw [h'] at this; simp at this
          · rw [HNL.out] at he h2; exact ⟨b, o, c, he, h2, h4⟩
        obtain ⟨b, o, c, rfl, hc29, hrd⟩ := hby
        have HTT := Lib.hid ((HB5.out.block (w.heap.size + 1) (by have := HP4.out; omega)).trans HT2.out)
        have HBF := Lib.hid (HBW.out.trans (HB5.out.mono (by have := HP4.out; omega)))
        by_cases hz29 : z ≤ 29
        · have hlen : ((l.drop 3).take z).length = z := by simp only [List.length_take, List.length_drop, HL.out]; omega
          have htt : t0 = ⟨((l.drop 3).take z).toArray⟩ := by rw [HT.out.1, HZZ.out]; rfl
          have hcv := run_convert_bytes_back (P := Try.prog) w5 45 9 5 ⟨b, o, none⟩ c ((l.drop 3).take z) Try.underlying45 Try.underlying5 Try.underlying9 (fun i hi => by
            have hi' : i < z := by omega
            have hq := hrd i (by rw [HNL.out]; omega)
            rw [add_at, hq, HNM.out]
            congr 2
            rw [List.getD_eq_getElem?_getD, List.getElem?_take_of_lt (by omega), List.getElem_take]
            rw [List.getElem?_eq_getElem (by simp only [List.length_drop, HL.out]; omega)]
            rfl)
          rw [hlen, ← htt] at hcv
          have d0 : w5.cell? ⟨p4, 0, none⟩ = some (.int .i64 0) := by rw [cell_row HP5.out]; rfl
          have dd1 : w5.cell? ⟨p4, 1, none⟩ = some (.string ⟨#[]⟩) := by rw [cell_row HP5.out]; rfl
          have e0 : w5.frozen? ⟨p4, 0, none⟩ = false := free_row HP5.out _
          have e1 : w5.frozen? ⟨p4, 1, none⟩ = false := free_row HP5.out _
          have hst : (w5.setCell ⟨p4, 0, none⟩ (.int .i64 (m0 : Int))).setCell ⟨p4, 1, none⟩ (.string t0) = w5.setRow p4 (mixA m0 m1 m2 m3 t0 t1 t2 t3 (0 + 1)) := by
            rw [setCell_row HP5.out, setRow_setCell HP5.out]; rfl
          have HST := Lib.hid hst
          have HSM' : Hid (∀ i, i < 0 + 1 → dzE l i ≤ 29) := fun i hi => by
            by_cases h : i = 0
            · rw [h, ← HZZ.out]; exact hz29
            · exact HSM.out i (by omega)
          have hz29' : (z : Int) ≤ 29 := by omega
          have hzc : (z : Int) ≤ (c : Int) := by omega
          have hz0 : (0 : Int) ≤ (z : Int) := by omega
          clear hst hlen htt hrd
          go_wp2
          rw [HST.out]
          refine ⟨⟨0 + 1, by omega, by rfl, rfl, Lib.hid ⟨HR5.out.1, HR5.out.2.1, ?_⟩, Lib.hid (setRow_heap _ _ _ _ _ _ HP5.out), Lib.hid ?_, HSM'⟩, by simp [intOf]⟩
          · exact (setRow_other _ _ _ _ (by have := HGE.out.1; omega)).trans HR5.out.2.2
          · exact HB5.out.trans ⟨rfl, rfl, rfl, by rw [setRow_size]; exact Nat.le_refl _, fun k hk => setRow_other _ _ _ _ (by omega)⟩
        · have hno : drB l = false := by unfold drB rdSz; rw [decide_eq_false (by have := HZZ.out; omega)]; rfl
          have HNO := Lib.hid hno
          have hzz : ¬ ((z : Int) ≤ 29) := by omega
          clear hno hrd hz29
          go_wp2_with (first
            | (refine wpList_build_at rfl 31 _ rfl [] (by simp) zCells built_ents ?_)
            | (refine wpList_store_row rfl 31 (.tmp 2) (.tmp 29) rfl (w.heap.size + 1) _ zCells 31 rfl rfl HTT.out size_ents rfl (by simp [zCells, Value.oneCell']) ?_))
          exact dread_end HTT.out rfl (dr_no HNO.out).1.symm (dr_no HNO.out).2.symm HBF.out rfl rfl rfl
      · have q1 := d_rNum_at l 32 2 (by decide) (by decide) (by decide)
        have q2 := d_rNum_at l 34 1 (by decide) (by decide) (by decide)
        have q3 := d_rBytes_at l 35 29 (by decide)
        rw [d_part_one l 34 (by rw [HL.out]; decide)] at q2
        have hmj : part l 32 2 = m1 := HM.out.2.1.symm
        rw [hmj] at q1
        have hml : m1 < 65536 := by rw [← hmj]; exact part_lt l 32 2
        obtain ⟨z, hzz⟩ : ∃ z, z = dzE l 1 := ⟨_, rfl⟩
        have hz256 : z < 256 := by rw [hzz]; exact UInt8.toNat_lt _
        have hzB : (l.getD 34 0).toNat = z := hzz.symm
        rw [hzB] at q2
        obtain ⟨nm, hnm⟩ : ∃ nm, nm = (l.drop 35).take 29 := ⟨_, rfl⟩
        rw [← hnm] at q3
        have hnl : nm.length = 29 := by rw [hnm]; simp only [List.length_take, List.length_drop, HL.out]; omega
        have HN1 : Hid (∀ w', RdrAt w' g ⟨l, 32, 0⟩ → Calls Try.prog 31 #[.pointer (some ⟨g, 0, none⟩), .int .i64 2] w' (RdTo w' g ⟨l, 34, 0⟩ (.int .u64 (m1 : Int)))) := fun w' h => by have q := rdnum_any g ⟨l, 32, 0⟩ ((2 : Nat) : Int) w' h; rw [q1] at q; exact q
        have HN2 : Hid (∀ w', RdrAt w' g ⟨l, 34, 0⟩ → Calls Try.prog 31 #[.pointer (some ⟨g, 0, none⟩), .int .i64 1] w' (RdTo w' g ⟨l, 35, 0⟩ (.int .u64 (z : Int)))) := fun w' h => by have q := rdnum_any g ⟨l, 34, 0⟩ ((1 : Nat) : Int) w' h; rw [q2] at q; exact q
        have HN3 : Hid (∀ w', RdrAt w' g ⟨l, 35, 0⟩ → Calls Try.prog 32 #[.pointer (some ⟨g, 0, none⟩), .int .i64 29] w' (RdOwn w' g ⟨l, 64, 0⟩ nm)) := fun w' h => by have q := rdbytes_any g ⟨l, 35, 0⟩ ((29 : Nat) : Int) w' h; rw [q3] at q; exact q
        have HNM := Lib.hid hnm
        have HNL := Lib.hid hnl
        have HZZ := Lib.hid hzz
        have HML := Lib.hid hml
        have hw1 : wrap64 (m1 : Int) = (m1 : Int) := by rw [← i64_w]; exact IntWalk.i64_in _ (by omega)
        have hw2 : wrap64 (z : Int) = (z : Int) := by rw [← i64_w]; exact IntWalk.i64_in _ (by omega)
        clear q1 q2 q3 hmj hml hzz hzB hnm hnl
        go_upto_region 8 with (first
          | (have q := d1; clear q; go_at_call 31; go_must (refine (HN2.out _ HR3.out).mono ?_; rintro e w4 ⟨rfl, h41, h42⟩; have HR4 := Lib.hid h41; have HP4' := Lib.hid (keep_only h42 (by have := HGE.out.1; omega) HP3.out); have HB4 := Lib.hid (HB3.out.trans (only_below h42 (by have := HGE.out.1; omega))); clear h41 h42))
          | (go_at_call 31; go_must (refine (HN1.out _ HR.out).mono ?_; rintro e w3 ⟨rfl, h31, h32⟩; have HR3 := Lib.hid h31; have HP3 := Lib.hid (keep_only h32 (by have := HGE.out.1; omega) HP.out); have HB3 := Lib.hid (HB.out.trans (only_below h32 (by have := HGE.out.1; omega))); have d1 : True := trivial; clear h31 h32))
          | (go_at_call 32; go_must (refine (HN3.out _ HR4.out).mono ?_; rintro e w5 ⟨v5, rfl, h51, h52, h53⟩; have HO5 := Lib.hid h51; have HR5 := Lib.hid h52; have HP5 := Lib.hid (keep_grown h53 (by have := HGE.out.1; omega) HP4'.out); have HB5 := Lib.hid (HB4.out.trans (grown_belowB h53 (by have := HGE.out.1; omega) (Nat.le_of_lt (Array.getElem?_eq_some_iff.1 HP4'.out).1))); clear h51 h52 h53)))
        have hby : ∃ b o c, v5 = .slice (some ⟨b, o, none⟩) 29 c ∧ 29 ≤ c ∧ RdB w5 b o nm := by
          rcases (own_byt HO5.out).1 with ⟨h', _⟩ | ⟨b, o, c, he, h2, h3, h4⟩
          · have := HNL.out; rw [h'] at this; simp at this
          · rw [HNL.out] at he h2; exact ⟨b, o, c, he, h2, h4⟩
        obtain ⟨b, o, c, rfl, hc29, hrd⟩ := hby
        have HTT := Lib.hid ((HB5.out.block (w.heap.size + 1) (by have := HP4.out; omega)).trans HT2.out)
        have HBF := Lib.hid (HBW.out.trans (HB5.out.mono (by have := HP4.out; omega)))
        by_cases hz29 : z ≤ 29
        · have hlen : ((l.drop 35).take z).length = z := by simp only [List.length_take, List.length_drop, HL.out]; omega
          have htt : t1 = ⟨((l.drop 35).take z).toArray⟩ := by rw [HT.out.2.1, HZZ.out]; rfl
          have hcv := run_convert_bytes_back (P := Try.prog) w5 45 9 5 ⟨b, o, none⟩ c ((l.drop 35).take z) Try.underlying45 Try.underlying5 Try.underlying9 (fun i hi => by
            have hi' : i < z := by omega
            have hq := hrd i (by rw [HNL.out]; omega)
            rw [add_at, hq, HNM.out]
            congr 2
            rw [List.getD_eq_getElem?_getD, List.getElem?_take_of_lt (by omega), List.getElem_take]
            rw [List.getElem?_eq_getElem (by simp only [List.length_drop, HL.out]; omega)]
            rfl)
          rw [hlen, ← htt] at hcv
          have d0 : w5.cell? ⟨p4, 2, none⟩ = some (.int .i64 0) := by rw [cell_row HP5.out]; rfl
          have dd1 : w5.cell? ⟨p4, 3, none⟩ = some (.string ⟨#[]⟩) := by rw [cell_row HP5.out]; rfl
          have e0 : w5.frozen? ⟨p4, 2, none⟩ = false := free_row HP5.out _
          have e1 : w5.frozen? ⟨p4, 3, none⟩ = false := free_row HP5.out _
          have hst : (w5.setCell ⟨p4, 2, none⟩ (.int .i64 (m1 : Int))).setCell ⟨p4, 3, none⟩ (.string t1) = w5.setRow p4 (mixA m0 m1 m2 m3 t0 t1 t2 t3 (1 + 1)) := by
            rw [setCell_row HP5.out, setRow_setCell HP5.out]; rfl
          have HST := Lib.hid hst
          have HSM' : Hid (∀ i, i < 1 + 1 → dzE l i ≤ 29) := fun i hi => by
            by_cases h : i = 1
            · rw [h, ← HZZ.out]; exact hz29
            · exact HSM.out i (by omega)
          have hz29' : (z : Int) ≤ 29 := by omega
          have hzc : (z : Int) ≤ (c : Int) := by omega
          have hz0 : (0 : Int) ≤ (z : Int) := by omega
          clear hst hlen htt hrd
          go_wp2
          rw [HST.out]
          refine ⟨⟨1 + 1, by omega, by rfl, rfl, Lib.hid ⟨HR5.out.1, HR5.out.2.1, ?_⟩, Lib.hid (setRow_heap _ _ _ _ _ _ HP5.out), Lib.hid ?_, HSM'⟩, by simp [intOf]⟩
          · exact (setRow_other _ _ _ _ (by have := HGE.out.1; omega)).trans HR5.out.2.2
          · exact HB5.out.trans ⟨rfl, rfl, rfl, by rw [setRow_size]; exact Nat.le_refl _, fun k hk => setRow_other _ _ _ _ (by omega)⟩
        · have hno : drB l = false := by unfold drB rdSz; rw [decide_eq_false (by have := HZZ.out; omega)]; rfl
          have HNO := Lib.hid hno
          have hzz : ¬ ((z : Int) ≤ 29) := by omega
          clear hno hrd hz29
          go_wp2_with (first
            | (refine wpList_build_at rfl 31 _ rfl [] (by simp) zCells built_ents ?_)
            | (refine wpList_store_row rfl 31 (.tmp 2) (.tmp 29) rfl (w.heap.size + 1) _ zCells 31 rfl rfl HTT.out size_ents rfl (by simp [zCells, Value.oneCell']) ?_))
          exact dread_end HTT.out rfl (dr_no HNO.out).1.symm (dr_no HNO.out).2.symm HBF.out rfl rfl rfl
      · have q1 := d_rNum_at l 64 2 (by decide) (by decide) (by decide)
        have q2 := d_rNum_at l 66 1 (by decide) (by decide) (by decide)
        have q3 := d_rBytes_at l 67 29 (by decide)
        rw [d_part_one l 66 (by rw [HL.out]; decide)] at q2
        have hmj : part l 64 2 = m2 := HM.out.2.2.1.symm
        rw [hmj] at q1
        have hml : m2 < 65536 := by rw [← hmj]; exact part_lt l 64 2
        obtain ⟨z, hzz⟩ : ∃ z, z = dzE l 2 := ⟨_, rfl⟩
        have hz256 : z < 256 := by rw [hzz]; exact UInt8.toNat_lt _
        have hzB : (l.getD 66 0).toNat = z := hzz.symm
        rw [hzB] at q2
        obtain ⟨nm, hnm⟩ : ∃ nm, nm = (l.drop 67).take 29 := ⟨_, rfl⟩
        rw [← hnm] at q3
        have hnl : nm.length = 29 := by rw [hnm]; simp only [List.length_take, List.length_drop, HL.out]; omega
        have HN1 : Hid (∀ w', RdrAt w' g ⟨l, 64, 0⟩ → Calls Try.prog 31 #[.pointer (some ⟨g, 0, none⟩), .int .i64 2] w' (RdTo w' g ⟨l, 66, 0⟩ (.int .u64 (m2 : Int)))) := fun w' h => by have q := rdnum_any g ⟨l, 64, 0⟩ ((2 : Nat) : Int) w' h; rw [q1] at q; exact q
        have HN2 : Hid (∀ w', RdrAt w' g ⟨l, 66, 0⟩ → Calls Try.prog 31 #[.pointer (some ⟨g, 0, none⟩), .int .i64 1] w' (RdTo w' g ⟨l, 67, 0⟩ (.int .u64 (z : Int)))) := fun w' h => by have q := rdnum_any g ⟨l, 66, 0⟩ ((1 : Nat) : Int) w' h; rw [q2] at q; exact q
        have HN3 : Hid (∀ w', RdrAt w' g ⟨l, 67, 0⟩ → Calls Try.prog 32 #[.pointer (some ⟨g, 0, none⟩), .int .i64 29] w' (RdOwn w' g ⟨l, 96, 0⟩ nm)) := fun w' h => by have q := rdbytes_any g ⟨l, 67, 0⟩ ((29 : Nat) : Int) w' h; rw [q3] at q; exact q
        have HNM := Lib.hid hnm
        have HNL := Lib.hid hnl
        have HZZ := Lib.hid hzz
        have HML := Lib.hid hml
        have hw1 : wrap64 (m2 : Int) = (m2 : Int) := by rw [← i64_w]; exact IntWalk.i64_in _ (by omega)
        have hw2 : wrap64 (z : Int) = (z : Int) := by rw [← i64_w]; exact IntWalk.i64_in _ (by omega)
        clear q1 q2 q3 hmj hml hzz hzB hnm hnl
        go_upto_region 8 with (first
          | (have q := d1; clear q; go_at_call 31; go_must (refine (HN2.out _ HR3.out).mono ?_; rintro e w4 ⟨rfl, h41, h42⟩; have HR4 := Lib.hid h41; have HP4' := Lib.hid (keep_only h42 (by have := HGE.out.1; omega) HP3.out); have HB4 := Lib.hid (HB3.out.trans (only_below h42 (by have := HGE.out.1; omega))); clear h41 h42))
          | (go_at_call 31; go_must (refine (HN1.out _ HR.out).mono ?_; rintro e w3 ⟨rfl, h31, h32⟩; have HR3 := Lib.hid h31; have HP3 := Lib.hid (keep_only h32 (by have := HGE.out.1; omega) HP.out); have HB3 := Lib.hid (HB.out.trans (only_below h32 (by have := HGE.out.1; omega))); have d1 : True := trivial; clear h31 h32))
          | (go_at_call 32; go_must (refine (HN3.out _ HR4.out).mono ?_; rintro e w5 ⟨v5, rfl, h51, h52, h53⟩; have HO5 := Lib.hid h51; have HR5 := Lib.hid h52; have HP5 := Lib.hid (keep_grown h53 (by have := HGE.out.1; omega) HP4'.out); have HB5 := Lib.hid (HB4.out.trans (grown_belowB h53 (by have := HGE.out.1; omega) (Nat.le_of_lt (Array.getElem?_eq_some_iff.1 HP4'.out).1))); clear h51 h52 h53)))
        have hby : ∃ b o c, v5 = .slice (some ⟨b, o, none⟩) 29 c ∧ 29 ≤ c ∧ RdB w5 b o nm := by
          rcases (own_byt HO5.out).1 with ⟨h', _⟩ | ⟨b, o, c, he, h2, h3, h4⟩
          · have := HNL.out; rw [h'] at this; simp at this
          · rw [HNL.out] at he h2; exact ⟨b, o, c, he, h2, h4⟩
        obtain ⟨b, o, c, rfl, hc29, hrd⟩ := hby
        have HTT := Lib.hid ((HB5.out.block (w.heap.size + 1) (by have := HP4.out; omega)).trans HT2.out)
        have HBF := Lib.hid (HBW.out.trans (HB5.out.mono (by have := HP4.out; omega)))
        by_cases hz29 : z ≤ 29
        · have hlen : ((l.drop 67).take z).length = z := by simp only [List.length_take, List.length_drop, HL.out]; omega
          have htt : t2 = ⟨((l.drop 67).take z).toArray⟩ := by rw [HT.out.2.2.1, HZZ.out]; rfl
          have hcv := run_convert_bytes_back (P := Try.prog) w5 45 9 5 ⟨b, o, none⟩ c ((l.drop 67).take z) Try.underlying45 Try.underlying5 Try.underlying9 (fun i hi => by
            have hi' : i < z := by omega
            have hq := hrd i (by rw [HNL.out]; omega)
            rw [add_at, hq, HNM.out]
            congr 2
            rw [List.getD_eq_getElem?_getD, List.getElem?_take_of_lt (by omega), List.getElem_take]
            rw [List.getElem?_eq_getElem (by simp only [List.length_drop, HL.out]; omega)]
            rfl)
          rw [hlen, ← htt] at hcv
          have d0 : w5.cell? ⟨p4, 4, none⟩ = some (.int .i64 0) := by rw [cell_row HP5.out]; rfl
          have dd1 : w5.cell? ⟨p4, 5, none⟩ = some (.string ⟨#[]⟩) := by rw [cell_row HP5.out]; rfl
          have e0 : w5.frozen? ⟨p4, 4, none⟩ = false := free_row HP5.out _
          have e1 : w5.frozen? ⟨p4, 5, none⟩ = false := free_row HP5.out _
          have hst : (w5.setCell ⟨p4, 4, none⟩ (.int .i64 (m2 : Int))).setCell ⟨p4, 5, none⟩ (.string t2) = w5.setRow p4 (mixA m0 m1 m2 m3 t0 t1 t2 t3 (2 + 1)) := by
            rw [setCell_row HP5.out, setRow_setCell HP5.out]; rfl
          have HST := Lib.hid hst
          have HSM' : Hid (∀ i, i < 2 + 1 → dzE l i ≤ 29) := fun i hi => by
            by_cases h : i = 2
            · rw [h, ← HZZ.out]; exact hz29
            · exact HSM.out i (by omega)
          have hz29' : (z : Int) ≤ 29 := by omega
          have hzc : (z : Int) ≤ (c : Int) := by omega
          have hz0 : (0 : Int) ≤ (z : Int) := by omega
          clear hst hlen htt hrd
          go_wp2
          rw [HST.out]
          refine ⟨⟨2 + 1, by omega, by rfl, rfl, Lib.hid ⟨HR5.out.1, HR5.out.2.1, ?_⟩, Lib.hid (setRow_heap _ _ _ _ _ _ HP5.out), Lib.hid ?_, HSM'⟩, by simp [intOf]⟩
          · exact (setRow_other _ _ _ _ (by have := HGE.out.1; omega)).trans HR5.out.2.2
          · exact HB5.out.trans ⟨rfl, rfl, rfl, by rw [setRow_size]; exact Nat.le_refl _, fun k hk => setRow_other _ _ _ _ (by omega)⟩
        · have hno : drB l = false := by unfold drB rdSz; rw [decide_eq_false (by have := HZZ.out; omega)]; rfl
          have HNO := Lib.hid hno
          have hzz : ¬ ((z : Int) ≤ 29) := by omega
          clear hno hrd hz29
          go_wp2_with (first
            | (refine wpList_build_at rfl 31 _ rfl [] (by simp) zCells built_ents ?_)
            | (refine wpList_store_row rfl 31 (.tmp 2) (.tmp 29) rfl (w.heap.size + 1) _ zCells 31 rfl rfl HTT.out size_ents rfl (by simp [zCells, Value.oneCell']) ?_))
          exact dread_end HTT.out rfl (dr_no HNO.out).1.symm (dr_no HNO.out).2.symm HBF.out rfl rfl rfl
      · have q1 := d_rNum_at l 96 2 (by decide) (by decide) (by decide)
        have q2 := d_rNum_at l 98 1 (by decide) (by decide) (by decide)
        have q3 := d_rBytes_at l 99 29 (by decide)
        rw [d_part_one l 98 (by rw [HL.out]; decide)] at q2
        have hmj : part l 96 2 = m3 := HM.out.2.2.2.symm
        rw [hmj] at q1
        have hml : m3 < 65536 := by rw [← hmj]; exact part_lt l 96 2
        obtain ⟨z, hzz⟩ : ∃ z, z = dzE l 3 := ⟨_, rfl⟩
        have hz256 : z < 256 := by rw [hzz]; exact UInt8.toNat_lt _
        have hzB : (l.getD 98 0).toNat = z := hzz.symm
        rw [hzB] at q2
        obtain ⟨nm, hnm⟩ : ∃ nm, nm = (l.drop 99).take 29 := ⟨_, rfl⟩
        rw [← hnm] at q3
        have hnl : nm.length = 29 := by rw [hnm]; simp only [List.length_take, List.length_drop, HL.out]; omega
        have HN1 : Hid (∀ w', RdrAt w' g ⟨l, 96, 0⟩ → Calls Try.prog 31 #[.pointer (some ⟨g, 0, none⟩), .int .i64 2] w' (RdTo w' g ⟨l, 98, 0⟩ (.int .u64 (m3 : Int)))) := fun w' h => by have q := rdnum_any g ⟨l, 96, 0⟩ ((2 : Nat) : Int) w' h; rw [q1] at q; exact q
        have HN2 : Hid (∀ w', RdrAt w' g ⟨l, 98, 0⟩ → Calls Try.prog 31 #[.pointer (some ⟨g, 0, none⟩), .int .i64 1] w' (RdTo w' g ⟨l, 99, 0⟩ (.int .u64 (z : Int)))) := fun w' h => by have q := rdnum_any g ⟨l, 98, 0⟩ ((1 : Nat) : Int) w' h; rw [q2] at q; exact q
        have HN3 : Hid (∀ w', RdrAt w' g ⟨l, 99, 0⟩ → Calls Try.prog 32 #[.pointer (some ⟨g, 0, none⟩), .int .i64 29] w' (RdOwn w' g ⟨l, 128, 0⟩ nm)) := fun w' h => by have q := rdbytes_any g ⟨l, 99, 0⟩ ((29 : Nat) : Int) w' h; rw [q3] at q; exact q
        have HNM := Lib.hid hnm
        have HNL := Lib.hid hnl
        have HZZ := Lib.hid hzz
        have HML := Lib.hid hml
        have hw1 : wrap64 (m3 : Int) = (m3 : Int) := by rw [← i64_w]; exact IntWalk.i64_in _ (by omega)
        have hw2 : wrap64 (z : Int) = (z : Int) := by rw [← i64_w]; exact IntWalk.i64_in _ (by omega)
        clear q1 q2 q3 hmj hml hzz hzB hnm hnl
        go_upto_region 8 with (first
          | (have q := d1; clear q; go_at_call 31; go_must (refine (HN2.out _ HR3.out).mono ?_; rintro e w4 ⟨rfl, h41, h42⟩; have HR4 := Lib.hid h41; have HP4' := Lib.hid (keep_only h42 (by have := HGE.out.1; omega) HP3.out); have HB4 := Lib.hid (HB3.out.trans (only_below h42 (by have := HGE.out.1; omega))); clear h41 h42))
          | (go_at_call 31; go_must (refine (HN1.out _ HR.out).mono ?_; rintro e w3 ⟨rfl, h31, h32⟩; have HR3 := Lib.hid h31; have HP3 := Lib.hid (keep_only h32 (by have := HGE.out.1; omega) HP.out); have HB3 := Lib.hid (HB.out.trans (only_below h32 (by have := HGE.out.1; omega))); have d1 : True := trivial; clear h31 h32))
          | (go_at_call 32; go_must (refine (HN3.out _ HR4.out).mono ?_; rintro e w5 ⟨v5, rfl, h51, h52, h53⟩; have HO5 := Lib.hid h51; have HR5 := Lib.hid h52; have HP5 := Lib.hid (keep_grown h53 (by have := HGE.out.1; omega) HP4'.out); have HB5 := Lib.hid (HB4.out.trans (grown_belowB h53 (by have := HGE.out.1; omega) (Nat.le_of_lt (Array.getElem?_eq_some_iff.1 HP4'.out).1))); clear h51 h52 h53)))
        have hby : ∃ b o c, v5 = .slice (some ⟨b, o, none⟩) 29 c ∧ 29 ≤ c ∧ RdB w5 b o nm := by
          rcases (own_byt HO5.out).1 with ⟨h', _⟩ | ⟨b, o, c, he, h2, h3, h4⟩
          · have := HNL.out; rw [h'] at this; simp at this
          · rw [HNL.out] at he h2; exact ⟨b, o, c, he, h2, h4⟩
        obtain ⟨b, o, c, rfl, hc29, hrd⟩ := hby
        have HTT := Lib.hid ((HB5.out.block (w.heap.size + 1) (by have := HP4.out; omega)).trans HT2.out)
        have HBF := Lib.hid (HBW.out.trans (HB5.out.mono (by have := HP4.out; omega)))
        by_cases hz29 : z ≤ 29
        · have hlen : ((l.drop 99).take z).length = z := by simp only [List.length_take, List.length_drop, HL.out]; omega
          have htt : t3 = ⟨((l.drop 99).take z).toArray⟩ := by rw [HT.out.2.2.2, HZZ.out]; rfl
          have hcv := run_convert_bytes_back (P := Try.prog) w5 45 9 5 ⟨b, o, none⟩ c ((l.drop 99).take z) Try.underlying45 Try.underlying5 Try.underlying9 (fun i hi => by
            have hi' : i < z := by omega
            have hq := hrd i (by rw [HNL.out]; omega)
            rw [add_at, hq, HNM.out]
            congr 2
            rw [List.getD_eq_getElem?_getD, List.getElem?_take_of_lt (by omega), List.getElem_take]
            rw [List.getElem?_eq_getElem (by simp only [List.length_drop, HL.out]; omega)]
            rfl)
          rw [hlen, ← htt] at hcv
          have d0 : w5.cell? ⟨p4, 6, none⟩ = some (.int .i64 0) := by rw [cell_row HP5.out]; rfl
          have dd1 : w5.cell? ⟨p4, 7, none⟩ = some (.string ⟨#[]⟩) := by rw [cell_row HP5.out]; rfl
          have e0 : w5.frozen? ⟨p4, 6, none⟩ = false := free_row HP5.out _
          have e1 : w5.frozen? ⟨p4, 7, none⟩ = false := free_row HP5.out _
          have hst : (w5.setCell ⟨p4, 6, none⟩ (.int .i64 (m3 : Int))).setCell ⟨p4, 7, none⟩ (.string t3) = w5.setRow p4 (mixA m0 m1 m2 m3 t0 t1 t2 t3 (3 + 1)) := by
            rw [setCell_row HP5.out, setRow_setCell HP5.out]; rfl
          have HST := Lib.hid hst
          have HSM' : Hid (∀ i, i < 3 + 1 → dzE l i ≤ 29) := fun i hi => by
            by_cases h : i = 3
            · rw [h, ← HZZ.out]; exact hz29
            · exact HSM.out i (by omega)
          have hz29' : (z : Int) ≤ 29 := by omega
          have hzc : (z : Int) ≤ (c : Int) := by omega
          have hz0 : (0 : Int) ≤ (z : Int) := by omega
          clear hst hlen htt hrd
          go_wp2
          rw [HST.out]
          refine ⟨⟨3 + 1, by omega, by rfl, rfl, Lib.hid ⟨HR5.out.1, HR5.out.2.1, ?_⟩, Lib.hid (setRow_heap _ _ _ _ _ _ HP5.out), Lib.hid ?_, HSM'⟩, by simp [intOf]⟩
          · exact (setRow_other _ _ _ _ (by have := HGE.out.1; omega)).trans HR5.out.2.2
          · exact HB5.out.trans ⟨rfl, rfl, rfl, by rw [setRow_size]; exact Nat.le_refl _, fun k hk => setRow_other _ _ _ _ (by omega)⟩
        · have hno : drB l = false := by unfold drB rdSz; rw [decide_eq_false (by have := HZZ.out; omega)]; rfl
          have HNO := Lib.hid hno
          have hzz : ¬ ((z : Int) ≤ 29) := by omega
          clear hno hrd hz29
          go_wp2_with (first
            | (refine wpList_build_at rfl 31 _ rfl [] (by simp) zCells built_ents ?_)
            | (refine wpList_store_row rfl 31 (.tmp 2) (.tmp 29) rfl (w.heap.size + 1) _ zCells 31 rfl rfl HTT.out size_ents rfl (by simp [zCells, Value.oneCell']) ?_))
          exact dread_end HTT.out rfl (dr_no HNO.out).1.symm (dr_no HNO.out).2.symm HBF.out rfl rfl rfl
end Go.Proofs.Ytcgfhpgjaibmhaa
