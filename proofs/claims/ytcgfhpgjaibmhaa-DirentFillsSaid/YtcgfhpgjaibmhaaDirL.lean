/-
  DirentWrites: the walk.
-/
import Derived.Test.YtcgfhpgjaibmhaaDirK
import Derived.ChangeKeysEq
import Derived.Deep.RegionHeld3
namespace Go.Proofs.Ytcgfhpgjaibmhaa
open Go.RowKit
set_option linter.unusedVariables false
set_option linter.unusedSimpArgs false
theorem equal_ent (w : World) (d : Nat) (n : Int) (s : ByteArray) : (Op.equalIn (d + 2) 30 (.agg #[.int .i64 n, .string s]) (.agg #[.int .i64 n, .string s])).run Try.prog w = .ok true w := by
  rw [run_equalIn_agg w (d + 1) 30 _ _ (by kernel_rfl) (by kernel_rfl)]
  go_simp
theorem part_ent (w : World) (cs : Array Value) (j : Nat) : (Go.part 30 cs (j * 2)).run Try.prog w = .ok (.agg (cs.extract (j * 2) (j * 2 + 2))) w := by
  obtain ⟨i, hi⟩ := info_of_underlying (P := Try.prog) Try.underlying30
  have hc : Try.prog.cellsOf 30 = 2 := by kernel_rfl
  simp [Go.part, isAgg, run_underlying Try.underlying30, run_sizeOf _ hi, hc]
theorem equal_ents (w : World) (n0 n1 n2 n3 : Int) (s0 s1 s2 s3 : ByteArray) : (Op.equalIn 10000 31 (entsV (n0, s0) (n1, s1) (n2, s2) (n3, s3)) (entsV (n0, s0) (n1, s1) (n2, s2) (n3, s3))).run Try.prog w = .ok true w := by
  obtain ⟨i, hi⟩ := info_of_underlying (P := Try.prog) Try.underlying30
  have hc : Try.prog.cellsOf 30 = 2 := by kernel_rfl
  unfold entsV
  rw [run_equalIn_array w 9999 _ _ Try.underlying31 hi, hc]
  have e0 := equal_ent w 9997 n0 s0
  have e1 := equal_ent w 9997 n1 s1
  have e2 := equal_ent w 9997 n2 s2
  have e3 := equal_ent w 9997 n3 s3
  show (Op.eqItems 9999 _ 2 _ _ [0, 1, 2, 3]).run Try.prog w = _
  simp only [Op.eqItems, Sem.run_bind, part_ent, Result.andThen_ok]
  rw [show (#[.int .i64 n0, .string s0, .int .i64 n1, .string s1, .int .i64 n2, .string s2, .int .i64 n3, .string s3] : Array Value).extract (0 * 2) (0 * 2 + 2) = #[.int .i64 n0, .string s0] from rfl, e0]
  simp only [Result.andThen_ok, Bool.not_true, Bool.false_eq_true, if_false, Sem.run_bind, part_ent, Sem.run_pure]
  rw [show (#[.int .i64 n0, .string s0, .int .i64 n1, .string s1, .int .i64 n2, .string s2, .int .i64 n3, .string s3] : Array Value).extract (1 * 2) (1 * 2 + 2) = #[.int .i64 n1, .string s1] from rfl, e1]
  simp only [Result.andThen_ok, Bool.not_true, Bool.false_eq_true, if_false, Sem.run_bind, part_ent, Sem.run_pure]
  rw [show (#[.int .i64 n0, .string s0, .int .i64 n1, .string s1, .int .i64 n2, .string s2, .int .i64 n3, .string s3] : Array Value).extract (2 * 2) (2 * 2 + 2) = #[.int .i64 n2, .string s2] from rfl, e2]
  simp only [Result.andThen_ok, Bool.not_true, Bool.false_eq_true, if_false, Sem.run_bind, part_ent, Sem.run_pure]
  rw [show (#[.int .i64 n0, .string s0, .int .i64 n1, .string s1, .int .i64 n2, .string s2, .int .i64 n3, .string s3] : Array Value).extract (3 * 2) (3 * 2 + 2) = #[.int .i64 n3, .string s3] from rfl, e3]
  simp only [Result.andThen_ok, Bool.not_true, Bool.false_eq_true, if_false, Sem.run_bind, part_ent, Sem.run_pure]
theorem cells16 {w' : World} {p q : Nat} {t u : TypeId} {f h : Nat × Nat} {n0 n1 n2 n3 : Int} {t0 t1 t2 t3 : ByteArray} (hp : w'.heap[p]? = some (.cells #[.int .i64 n0, .string t0, .int .i64 n1, .string t1, .int .i64 n2, .string t2, .int .i64 n3, .string t3] t f)) (hq : w'.heap[q]? = some (.cells #[.int .i64 n0, .string t0, .int .i64 n1, .string t1, .int .i64 n2, .string t2, .int .i64 n3, .string t3] u h)) :
    w'.cell? ⟨p, 0, none⟩ = some (.int .i64 n0) ∧ w'.cell? ⟨p, 1, none⟩ = some (.string t0) ∧ w'.cell? ⟨p, 2, none⟩ = some (.int .i64 n1) ∧ w'.cell? ⟨p, 3, none⟩ = some (.string t1) ∧ w'.cell? ⟨p, 4, none⟩ = some (.int .i64 n2) ∧ w'.cell? ⟨p, 5, none⟩ = some (.string t2) ∧ w'.cell? ⟨p, 6, none⟩ = some (.int .i64 n3) ∧ w'.cell? ⟨p, 7, none⟩ = some (.string t3) ∧ w'.cell? ⟨q, 0, none⟩ = some (.int .i64 n0) ∧ w'.cell? ⟨q, 1, none⟩ = some (.string t0) ∧ w'.cell? ⟨q, 2, none⟩ = some (.int .i64 n1) ∧ w'.cell? ⟨q, 3, none⟩ = some (.string t1) ∧ w'.cell? ⟨q, 4, none⟩ = some (.int .i64 n2) ∧ w'.cell? ⟨q, 5, none⟩ = some (.string t2) ∧ w'.cell? ⟨q, 6, none⟩ = some (.int .i64 n3) ∧ w'.cell? ⟨q, 7, none⟩ = some (.string t3) := by
  simp only [cell_row hp, cell_row hq]
  exact ⟨rfl, rfl, rfl, rfl, rfl, rfl, rfl, rfl, rfl, rfl, rfl, rfl, rfl, rfl, rfl, rfl⟩
theorem dwS_len (n0 n1 n2 n3 : Int) (s0 s1 s2 s3 : ByteArray) : (dwS (entsL n0 n1 n2 n3 s0 s1 s2 s3)).length = 128 := by
  unfold dwS
  split
  · exact dw_len _ ‹_›
  · simp
theorem equal_arr_self (w : World) (xs : List UInt8) (hx : xs.length = 128) : (Op.equalIn 10000 37 (.agg (bvs xs).toArray) (.agg (bvs xs).toArray)).run Try.prog w = .ok true w := by
  have q := d_equal_sector w xs xs hx hx
  rw [decide_eq_true (show xs = xs from rfl)] at q
  exact q
set_option maxHeartbeats 8000000 in
set_option maxRecDepth 10000 in
theorem direntWrites_walk (n0 n1 n2 n3 : Int) (s0 s1 s2 s3 : ByteArray) (w : World) :
    Calls Try.prog 5 #[entsV (n0, s0) (n1, s1) (n2, s2) (n3, s3)] w (RetT w true) := by
  have hg0 := heap_alloc_last w (.cells #[.int .i64 n0, .string s0, .int .i64 n1, .string s1, .int .i64 n2, .string s2, .int .i64 n3, .string s3] 29 (0, 0))
  have hb0 : Below w.heap.size w (w.alloc (.cells #[.int .i64 n0, .string s0, .int .i64 n1, .string s1, .int .i64 n2, .string s2, .int .i64 n3, .string s3] 29 (0, 0))) := (Below.refl _ _).alloc (Nat.le_refl _) _
  have HG0 := Lib.hid hg0
  have HB0 := Lib.hid hb0
  clear hg0 hb0
  unfold entsV
  go_enter Try.func5, Try.ntmps5
  go_upto_region 4 with (go_at_call 8; go_must (refine (awake06 _).mono ?_; rintro e w1 ⟨rfl, hb1⟩))
  have HG1 := Lib.hid (heap_keep HG0.out hb1)
  have HB1 := Lib.hid (bnext HB0.out hb1)
  have hlt1 : w.heap.size < w1.heap.size := (Array.getElem?_eq_some_iff.1 HG1.out).1
  have HLT1 := Lib.hid hlt1
  clear hb1 HG0 HB0 hlt1
  go_loopw [3, 11] (fun _ i wr => ∃ j : Nat, j ≤ 4 ∧ i = .int .i64 j ∧ ∃ t0 t1 t2 t3 : ByteArray, (1 ≤ j → t0.size ≤ 100) ∧ (2 ≤ j → t1.size ≤ 100) ∧ (3 ≤ j → t2.size ≤ 100) ∧ (4 ≤ j → t3.size ≤ 100) ∧ Hid (wr.heap[w.heap.size]? = some (.cells #[.int .i64 n0, .string t0, .int .i64 n1, .string t1, .int .i64 n2, .string t2, .int .i64 n3, .string t3] 29 (0, 0))) ∧ Hid (Below w.heap.size w wr)) (fun _ i _ => (4 - intOf i).toNat)
  case atStart => exact ⟨0, by omega, by rfl, s0, s1, s2, s3, by omega, by omega, by omega, by omega, HG1, HB1⟩
  case round =>
    obtain ⟨j, hj, rfl, t0, t1, t2, t3, z0, z1, z2, z3, HG, HB⟩ := hrel
    clear HG1 HB1
    have hjc : j = 0 ∨ j = 1 ∨ j = 2 ∨ j = 3 ∨ j = 4 := by omega
    rcases hjc with rfl | rfl | rfl | rfl | rfl
    · have d1 : wr.cell? ⟨w.heap.size, 1, none⟩ = some (.string t0) := by rw [cell_row HG.out]; rfl
      have e1 : wr.frozen? ⟨w.heap.size, 1, none⟩ = false := free_row HG.out _
      have hst : wr.setCell ⟨w.heap.size, 1, none⟩ (.string (t0.extract 0 100)) = wr.setRow w.heap.size #[.int .i64 n0, .string (t0.extract 0 100), .int .i64 n1, .string t1, .int .i64 n2, .string t2, .int .i64 n3, .string t3] := by
        rw [setCell_row HG.out]; rfl
      have HST := Lib.hid hst
      clear hst
      by_cases hz : 100 < t0.size
      · have HZ : (t0.extract 0 100).size ≤ 100 := by rw [ByteArray.size_extract]; omega
        go_wp2
        rw [HST.out]
        exact ⟨⟨1, by omega, by rfl, (t0.extract 0 100), t1, t2, t3, fun _ => HZ, by omega, by omega, by omega, Lib.hid (setRow_heap _ _ _ _ _ _ HG.out), Lib.hid (HB.out.trans ⟨rfl, rfl, rfl, by rw [setRow_size]; exact Nat.le_refl _, fun k hk => setRow_other _ _ _ _ (by omega)⟩)⟩, by simp [intOf]⟩
      · have HZ : t0.size ≤ 100 := by omega
        go_wp2
        exact ⟨⟨1, by omega, by rfl, t0, t1, t2, t3, fun _ => HZ, by omega, by omega, by omega, HG, HB⟩, by simp [intOf]⟩
    · have d1 : wr.cell? ⟨w.heap.size, 3, none⟩ = some (.string t1) := by rw [cell_row HG.out]; rfl
      have e1 : wr.frozen? ⟨w.heap.size, 3, none⟩ = false := free_row HG.out _
      have hst : wr.setCell ⟨w.heap.size, 3, none⟩ (.string (t1.extract 0 100)) = wr.setRow w.heap.size #[.int .i64 n0, .string t0, .int .i64 n1, .string (t1.extract 0 100), .int .i64 n2, .string t2, .int .i64 n3, .string t3] := by
        rw [setCell_row HG.out]; rfl
      have HST := Lib.hid hst
      clear hst
      by_cases hz : 100 < t1.size
      · have HZ : (t1.extract 0 100).size ≤ 100 := by rw [ByteArray.size_extract]; omega
        go_wp2
        rw [HST.out]
        exact ⟨⟨2, by omega, by rfl, t0, (t1.extract 0 100), t2, t3, fun _ => z0 (by omega), fun _ => HZ, by omega, by omega, Lib.hid (setRow_heap _ _ _ _ _ _ HG.out), Lib.hid (HB.out.trans ⟨rfl, rfl, rfl, by rw [setRow_size]; exact Nat.le_refl _, fun k hk => setRow_other _ _ _ _ (by omega)⟩)⟩, by simp [intOf]⟩
      · have HZ : t1.size ≤ 100 := by omega
        go_wp2
        exact ⟨⟨2, by omega, by rfl, t0, t1, t2, t3, fun _ => z0 (by omega), fun _ => HZ, by omega, by omega, HG, HB⟩, by simp [intOf]⟩
    · have d1 : wr.cell? ⟨w.heap.size, 5, none⟩ = some (.string t2) := by rw [cell_row HG.out]; rfl
      have e1 : wr.frozen? ⟨w.heap.size, 5, none⟩ = false := free_row HG.out _
      have hst : wr.setCell ⟨w.heap.size, 5, none⟩ (.string (t2.extract 0 100)) = wr.setRow w.heap.size #[.int .i64 n0, .string t0, .int .i64 n1, .string t1, .int .i64 n2, .string (t2.extract 0 100), .int .i64 n3, .string t3] := by
        rw [setCell_row HG.out]; rfl
      have HST := Lib.hid hst
      clear hst
      by_cases hz : 100 < t2.size
      · have HZ : (t2.extract 0 100).size ≤ 100 := by rw [ByteArray.size_extract]; omega
        go_wp2
        rw [HST.out]
        exact ⟨⟨3, by omega, by rfl, t0, t1, (t2.extract 0 100), t3, fun _ => z0 (by omega), fun _ => z1 (by omega), fun _ => HZ, by omega, Lib.hid (setRow_heap _ _ _ _ _ _ HG.out), Lib.hid (HB.out.trans ⟨rfl, rfl, rfl, by rw [setRow_size]; exact Nat.le_refl _, fun k hk => setRow_other _ _ _ _ (by omega)⟩)⟩, by simp [intOf]⟩
      · have HZ : t2.size ≤ 100 := by omega
        go_wp2
        exact ⟨⟨3, by omega, by rfl, t0, t1, t2, t3, fun _ => z0 (by omega), fun _ => z1 (by omega), fun _ => HZ, by omega, HG, HB⟩, by simp [intOf]⟩
    · have d1 : wr.cell? ⟨w.heap.size, 7, none⟩ = some (.string t3) := by rw [cell_row HG.out]; rfl
      have e1 : wr.frozen? ⟨w.heap.size, 7, none⟩ = false := free_row HG.out _
      have hst : wr.setCell ⟨w.heap.size, 7, none⟩ (.string (t3.extract 0 100)) = wr.setRow w.heap.size #[.int .i64 n0, .string t0, .int .i64 n1, .string t1, .int .i64 n2, .string t2, .int .i64 n3, .string (t3.extract 0 100)] := by
        rw [setCell_row HG.out]; rfl
      have HST := Lib.hid hst
      clear hst
      by_cases hz : 100 < t3.size
      · have HZ : (t3.extract 0 100).size ≤ 100 := by rw [ByteArray.size_extract]; omega
        go_wp2
        rw [HST.out]
        exact ⟨⟨4, by omega, by rfl, t0, t1, t2, (t3.extract 0 100), fun _ => z0 (by omega), fun _ => z1 (by omega), fun _ => z2 (by omega), fun _ => HZ, Lib.hid (setRow_heap _ _ _ _ _ _ HG.out), Lib.hid (HB.out.trans ⟨rfl, rfl, rfl, by rw [setRow_size]; exact Nat.le_refl _, fun k hk => setRow_other _ _ _ _ (by omega)⟩)⟩, by simp [intOf]⟩
      · have HZ : t3.size ≤ 100 := by omega
        go_wp2
        exact ⟨⟨4, by omega, by rfl, t0, t1, t2, t3, fun _ => z0 (by omega), fun _ => z1 (by omega), fun _ => z2 (by omega), fun _ => HZ, HG, HB⟩, by simp [intOf]⟩
    · replace z0 := z0 (by omega)
      replace z1 := z1 (by omega)
      replace z2 := z2 (by omega)
      replace z3 := z3 (by omega)
      have hsz : ∀ i, i < 4 → (eAt (entsL n0 n1 n2 n3 t0 t1 t2 t3) i).2.size ≤ 1000 := by
        intro i hi
        have : i = 0 ∨ i = 1 ∨ i = 2 ∨ i = 3 := by omega
        rcases this with rfl | rfl | rfl | rfl
        · show t0.size ≤ 1000; omega
        · show t1.size ≤ 1000; omega
        · show t2.size ≤ 1000; omega
        · show t3.size ≤ 1000; omega
      have HOW := fun w' => Lib.hid (dirown_any n0 n1 n2 n3 t0 t1 t2 t3 w')
      have HDW := fun w' => Lib.hid (dwrite_any n0 n1 n2 n3 t0 t1 t2 t3 w')
      have HRW := fun w' => Lib.hid (rwrite06_any n0 n1 n2 n3 t0 t1 t2 t3 w' hsz)
      have hlen := dwS_len n0 n1 n2 n3 t0 t1 t2 t3
      have HRE := fun w' => Lib.hid (dread_any (dwS (entsL n0 n1 n2 n3 t0 t1 t2 t3)) w' hlen)
      have hl2 : (bvs (dwS (entsL n0 n1 n2 n3 t0 t1 t2 t3))).toArray.size = 128 := by rw [secV_size, hlen]
      have heq := fun W => equal_arr_self W (dwS (entsL n0 n1 n2 n3 t0 t1 t2 t3)) hlen
      have HEQ := Lib.hid heq
      have HL2 := Lib.hid hl2
      have hE : dwE (entsL n0 n1 n2 n3 t0 t1 t2 t3) = if entsOk (entsL n0 n1 n2 n3 t0 t1 t2 t3) then 0 else 1 := rfl
      have hbk := write_back n0 n1 n2 n3 t0 t1 t2 t3
      have hdS : entsOk (entsL n0 n1 n2 n3 t0 t1 t2 t3) = true → dwS (entsL n0 n1 n2 n3 t0 t1 t2 t3) = entsB (entsL n0 n1 n2 n3 t0 t1 t2 t3) 4 := fun h => by unfold dwS; rw [if_pos h]
      change ∀ w', Hid (Calls _ _ _ w' fun e w'' => e = .returned (.tuple #[secV (dwS (entsL n0 n1 n2 n3 t0 t1 t2 t3)), .int .i64 (dwE (entsL n0 n1 n2 n3 t0 t1 t2 t3))]) ∧ _) at HDW
      obtain ⟨bk, hbk2⟩ : ∃ b, b = entsOk (entsL n0 n1 n2 n3 t0 t1 t2 t3) := ⟨_, rfl⟩
      obtain ⟨l, hl⟩ : ∃ l, l = dwS (entsL n0 n1 n2 n3 t0 t1 t2 t3) := ⟨_, rfl⟩
      obtain ⟨de, hde⟩ : ∃ de, de = dwE (entsL n0 n1 n2 n3 t0 t1 t2 t3) := ⟨_, rfl⟩
      rw [← hl] at HDW HRW HRE HEQ HL2
      rw [← hde] at HDW hE
      rw [← hbk2] at HRW hE hbk hdS
      rw [← hl] at hdS
      unfold secV at HDW HRW HRE
      unfold entsV at HOW HDW HRW hbk
      have HE := Lib.hid hE
      have HBK := Lib.hid hbk
      have HDS := Lib.hid hdS
      clear hl hde hlen hl2 heq hsz z0 z1 z2 z3 hE hbk hdS hbk2
      have hsz : (Try.prog.info? 29).map (·.size) = some 8 := by kernel_rfl
      have hz := zero_sec
      have hza := zero_arr
      go_upto_region 10 with (first
        | (refine wpList_load_row rfl 29 (.tmp 1) rfl w.heap.size rfl _ _ _ _ HG.out Try.underlying29 rfl hsz ?_)
        | (refine wpList_store_row rfl 37 (.tmp 4) (.tmp 33) rfl w3.heap.size zArr (bvs l).toArray 37 rfl rfl (heap_alloc_last _ _) (by rw [HL2.out]; exact size_sec) (by rw [HL2.out, zArr_size]) (sec_one _) ?_)
        | (go_at_call 15; go_must (refine (HDW _).out.mono ?_; rintro e w3 ⟨rfl, hb3⟩; have HG3 := Lib.hid (heap_keep HG2.out hb3); have HB3 := Lib.hid (bnext HB2.out hb3); clear hb3))
        | (go_at_call 11; go_must (refine (HOW _).out.mono ?_; rintro e w2 ⟨rfl, hb2⟩; have HG2 := Lib.hid (heap_keep HG.out hb2); have HB2 := Lib.hid (bnext HB.out hb2); clear hb2)))
      rw [World.setRow_alloc_new]
      have hS4 := heap_alloc_last w3 (.cells (bvs l).toArray 37 (0, 0))
      have hB4 := HB3.out.alloc HB3.out.size (.cells (bvs l).toArray 37 (0, 0))
      have hG4 := heap_keep HG3.out ((Below.refl w3.heap.size w3).alloc (Nat.le_refl _) (.cells (bvs l).toArray 37 (0, 0)))
      have hlt3 : w.heap.size < w3.heap.size := (Array.getElem?_eq_some_iff.1 HG3.out).1
      revert hS4 hB4 hG4 hlt3
      generalize w3.alloc (.cells (bvs l).toArray 37 (0, 0)) = w4
      generalize w3.heap.size = p4
      intro hS4 hB4 hG4 hlt4
      have HS4 := Lib.hid hS4
      have HB4 := Lib.hid hB4
      have HG4 := Lib.hid hG4
      have HLT4 := Lib.hid hlt4
      clear hS4 hB4 hG4 hlt4 HG3 HB3 HG2 HB2 HG HB HDW
      go_upto_region 11 with (first
        | (refine wpList_load_row rfl 29 (.tmp 1) rfl w.heap.size rfl _ _ _ _ HG4.out Try.underlying29 rfl hsz ?_)
        | (refine wpList_store_row rfl 36 (.tmp 6) (.tmp 38) rfl w5.heap.size zArr (bvs l).toArray 36 rfl rfl (heap_alloc_last _ _) (by rw [HL2.out]; exact size_arr) (by rw [HL2.out, zArr_size]) (sec_one _) ?_)
        | (go_at_call 16; go_must (refine (HRW _).out.mono ?_; rintro e w5 ⟨rfl, hb5⟩; have HG5 := Lib.hid (heap_keep HG4.out hb5); have HS5 := Lib.hid (heap_keep HS4.out hb5); have HB5 := Lib.hid (bnext HB4.out hb5); clear hb5)))
      rw [World.setRow_alloc_new]
      have hA6 := (Below.refl w5.heap.size w5).alloc (Nat.le_refl _) (.cells (bvs l).toArray 36 (0, 0))
      have hT6 := heap_alloc_last w5 (.cells (bvs l).toArray 36 (0, 0))
      have hB6 := HB5.out.alloc HB5.out.size (.cells (bvs l).toArray 36 (0, 0))
      have hG6 := heap_keep HG5.out hA6
      have hS6 := heap_keep HS5.out hA6
      have hlt6 : p4 < w5.heap.size := (Array.getElem?_eq_some_iff.1 HS5.out).1
      clear hA6
      revert hT6 hB6 hG6 hS6 hlt6
      generalize w5.alloc (.cells (bvs l).toArray 36 (0, 0)) = w6
      generalize w5.heap.size = p6
      intro hT6 hB6 hG6 hS6 hlt6
      have HT6 := Lib.hid hT6
      have HS6 := Lib.hid hS6
      have HB6 := Lib.hid hB6
      have HG6 := Lib.hid hG6
      have HLT6 := Lib.hid hlt6
      have heq := HEQ.out
      clear hT6 hS6 hB6 hG6 hlt6 HS4 HB4 HG4 HG5 HS5 HB5 HRW hz hza
      by_cases hb : bk = true
      · subst hb
        have he0 : de = 0 := HE.out
        subst he0
        obtain ⟨bk1, bk2⟩ := HBK.out rfl
        rw [← HDS.out rfl] at bk1 bk2
        have hro : drV l = .agg #[.int .i64 n0, .string t0, .int .i64 n1, .string t1, .int .i64 n2, .string t2, .int .i64 n3, .string t3] := bk2
        have hre : drE l = 0 := by unfold drE; rw [bk1]; rfl
        rw [hro, hre] at HRE
        clear HE HBK HDS bk1 bk2 hro hre
        go_upto_region 15 with (first
          | (refine wpList_load_row rfl 37 (.tmp 4) rfl p4 rfl _ _ _ _ HS6.out Try.underlying37 rfl (by rw [HL2.out]; exact size_sec) ?_)
          | (refine wpList_load_row rfl 36 (.tmp 6) rfl p6 rfl _ _ _ _ HT6.out Try.underlying36 rfl (by rw [HL2.out]; exact size_arr) ?_))
        go_upto_region 16 with (first
          | (have q := HB7; clear q; refine wpList_store_row rfl 31 (.tmp 8) (.tmp 56) rfl w7.heap.size #[.int .i64 0, .string ⟨#[]⟩, .int .i64 0, .string ⟨#[]⟩, .int .i64 0, .string ⟨#[]⟩, .int .i64 0, .string ⟨#[]⟩] #[.int .i64 n0, .string t0, .int .i64 n1, .string t1, .int .i64 n2, .string t2, .int .i64 n3, .string t3] 31 rfl rfl (heap_alloc_last _ _) size_ents rfl (by simp [Value.oneCell']) ?_)
          | (refine wpList_load_row rfl 37 (.tmp 4) rfl p4 rfl _ _ _ _ HS6.out Try.underlying37 rfl (by rw [HL2.out]; exact size_sec) ?_)
          | (go_at_call 17; go_must (refine (HRE _).out.mono ?_; rintro e w7 ⟨rfl, hb7⟩; have HG7 := Lib.hid (heap_keep HG6.out hb7); have HB7 := Lib.hid (bnext HB6.out hb7); clear hb7)))
        rw [World.setRow_alloc_new]
        have hA8 := (Below.refl w7.heap.size w7).alloc (Nat.le_refl _) (.cells #[.int .i64 n0, .string t0, .int .i64 n1, .string t1, .int .i64 n2, .string t2, .int .i64 n3, .string t3] 31 (0, 0))
        have hT8 := heap_alloc_last w7 (.cells #[.int .i64 n0, .string t0, .int .i64 n1, .string t1, .int .i64 n2, .string t2, .int .i64 n3, .string t3] 31 (0, 0))
        have hB8 := HB7.out.alloc HB7.out.size (.cells #[.int .i64 n0, .string t0, .int .i64 n1, .string t1, .int .i64 n2, .string t2, .int .i64 n3, .string t3] 31 (0, 0))
        have hG8 := heap_keep HG7.out hA8
        have hlt8 : w.heap.size < w7.heap.size := (Array.getElem?_eq_some_iff.1 HG7.out).1
        clear hA8
        revert hT8 hB8 hG8 hlt8
        generalize w7.alloc (.cells #[.int .i64 n0, .string t0, .int .i64 n1, .string t1, .int .i64 n2, .string t2, .int .i64 n3, .string t3] 31 (0, 0)) = w8
        generalize w7.heap.size = p8
        intro hT8 hB8 hG8 hlt8
        have HT8 := Lib.hid hT8
        have HB8 := Lib.hid hB8
        have HG8 := Lib.hid hG8
        have hEQ : ∀ W : World, (Op.equalIn 10000 31 (.agg #[.int .i64 n0, .string t0, .int .i64 n1, .string t1, .int .i64 n2, .string t2, .int .i64 n3, .string t3]) (.agg #[.int .i64 n0, .string t0, .int .i64 n1, .string t1, .int .i64 n2, .string t2, .int .i64 n3, .string t3])).run Try.prog W = .ok true W := fun W => equal_ents W n0 n1 n2 n3 t0 t1 t2 t3
        clear hT8 hB8 hG8 hlt8 HG7 HB7 HG6 HB6 HS6 HT6 heq HEQ
        go_region_held3 (fun w' => w'.cell? ⟨p8, 0, none⟩ = some (.int .i64 n0) ∧ w'.cell? ⟨p8, 1, none⟩ = some (.string t0) ∧ w'.cell? ⟨p8, 2, none⟩ = some (.int .i64 n1) ∧ w'.cell? ⟨p8, 3, none⟩ = some (.string t1) ∧ w'.cell? ⟨p8, 4, none⟩ = some (.int .i64 n2) ∧ w'.cell? ⟨p8, 5, none⟩ = some (.string t2) ∧ w'.cell? ⟨p8, 6, none⟩ = some (.int .i64 n3) ∧ w'.cell? ⟨p8, 7, none⟩ = some (.string t3) ∧ w'.cell? ⟨w.heap.size, 0, none⟩ = some (.int .i64 n0) ∧ w'.cell? ⟨w.heap.size, 1, none⟩ = some (.string t0) ∧ w'.cell? ⟨w.heap.size, 2, none⟩ = some (.int .i64 n1) ∧ w'.cell? ⟨w.heap.size, 3, none⟩ = some (.string t1) ∧ w'.cell? ⟨w.heap.size, 4, none⟩ = some (.int .i64 n2) ∧ w'.cell? ⟨w.heap.size, 5, none⟩ = some (.string t2) ∧ w'.cell? ⟨w.heap.size, 6, none⟩ = some (.int .i64 n3) ∧ w'.cell? ⟨w.heap.size, 7, none⟩ = some (.string t3)) (first | exact cells16 HT8.out HG8.out | exact cells16 (heap_keep (w := w8.drew) HT8.out hb9) (heap_keep (w := w8.drew) HG8.out hb9))
          (first
            | (go_at_call 11; refine (HOW _).out.mono ?_; rintro e w9 ⟨rfl, hb9⟩))
        go_wp2
        go_ret
        exact ⟨rfl, bnext HB8.out.drew hb9⟩
      · have hbf : bk = false := by simpa using hb
        subst hbf
        have he1 : de = 1 := HE.out
        subst he1
        clear HE HBK HDS
        go_wp2_with (first
          | (refine wpList_load_row rfl 37 (.tmp 4) rfl p4 rfl _ _ _ _ HS6.out Try.underlying37 rfl (by rw [HL2.out]; exact size_sec) ?_)
          | (refine wpList_load_row rfl 36 (.tmp 6) rfl p6 rfl _ _ _ _ HT6.out Try.underlying36 rfl (by rw [HL2.out]; exact size_arr) ?_))
        go_ret
        exact ⟨rfl, HB6.out⟩
end Go.Proofs.Ytcgfhpgjaibmhaa
