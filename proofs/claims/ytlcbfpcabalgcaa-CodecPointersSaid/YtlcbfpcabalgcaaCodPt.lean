/-
  Codec: pointers: the program's and the reference's.
-/
import Derived.Test.YtlcbfpcabalgcaaCodQ
import Derived.Test.YtlcbfpcabalgcaaWriterB
import Derived.Test.YtlcbfpcabalgcaaReader
namespace Go.Proofs.Ytlcbfpcabalgcaa
open Go.RowKit
set_option linter.unusedVariables false
set_option linter.unusedSimpArgs false
set_option linter.unnecessarySimpa false
def inP (n : Int) : Bool := decide (0 ≤ n ∧ n ≤ 65535)
def ptrOk (z : List Int) : Bool := z.all inP
def ptrB : List Int → List UInt8
  | [] => []
  | n :: r => le 4 n.toNat ++ ptrB r
theorem ptrB_append (a b : List Int) : ptrB (a ++ b) = ptrB a ++ ptrB b := by
  induction a with
  | nil => rfl
  | cons x r ih => rw [List.cons_append, ptrB, ih, ptrB, List.append_assoc]
theorem ptrB_len (a : List Int) : (ptrB a).length = 4 * a.length := by
  induction a with
  | nil => rfl
  | cons x r ih => rw [ptrB, List.length_append, le_length, ih, List.length_cons]; omega
theorem ptrB_snoc (z : List Int) (k : Nat) (n : Int) (h : z[k]? = some n) : ptrB (z.take (k + 1)) = ptrB (z.take k) ++ le 4 n.toNat := by
  obtain ⟨hk, rfl⟩ := List.getElem?_eq_some_iff.1 h
  rw [List.take_succ_eq_append_getElem hk, ptrB_append]; simp [ptrB]
theorem ptrOk_snoc (z : List Int) (k : Nat) (n : Int) (h : z[k]? = some n) : ptrOk (z.take (k + 1)) = (ptrOk (z.take k) && inP n) := by
  obtain ⟨hk, rfl⟩ := List.getElem?_eq_some_iff.1 h
  unfold ptrOk
  rw [List.take_succ_eq_append_getElem hk, List.all_append]; simp
theorem ptrOk_at (z : List Int) (k : Nat) (n : Int) (h : z[k]? = some n) (hn : inP n = false) : ptrOk z = false := by
  unfold ptrOk
  rw [List.all_eq_false]
  exact ⟨n, List.mem_of_getElem? h, by rw [hn]; simp⟩
def ints (z : List Int) : List Value := z.map (Value.int .i64 ·)
theorem ints_len (z : List Int) : (ints z).length = z.length := by simp [ints]
theorem ints_at (z : List Int) (k : Nat) (n : Int) (h : z[k]? = some n) : (ints z).toArray[k]? = some (.int .i64 n) := by simp [ints, h]
theorem ints_one (z : List Int) : (ints z).toArray.all (·.oneCell') = true := by
  rw [List.all_toArray, List.all_eq_true]
  intro u hu
  simp only [ints, List.mem_map] at hu
  obtain ⟨n, _, rfl⟩ := hu
  rfl
theorem infoPtr : (Try.prog.info? 54).map (·.size) = some 32 := by kernel_rfl
theorem run_index_ptr (w : World) (cs : Array Value) (j : Nat) (n : Int) (hj : j < 32) (hc : cs[j]? = some (.int .i64 n)) : (Instr.index 54 (.agg cs) (.int .i64 (j : Int))).run Try.prog w = .ok (.int .i64 n) w := by
  obtain ⟨i, hi⟩ := info_of_underlying (P := Try.prog) Try.underlying3
  have h1 : (0 : Int) ≤ (j : Int) ∧ (j : Int) < 32 := by omega
  have hk : Try.prog.cellsOf 3 = 1 := by kernel_rfl
  have p1 := run_part_plain (P := Try.prog) (e := 3) w (by kernel_rfl) (xs := cs) (off := j * 1) (v := .int .i64 n) (by rw [Nat.mul_one]; exact hc)
  simp [Instr.index, asIntOf, run_underlying Try.underlying54, run_sizeOf _ hi, hk, h1, hj, p1]
  try simpa using p1
/-- What writing comes to. -/
def wptS (z : List Int) : List UInt8 := if ptrOk z then ptrB z else List.replicate 128 0
def wptE (z : List Int) : Int := if ptrOk z then 0 else 1
set_option maxRecDepth 10000 in
set_option maxHeartbeats 8000000 in
theorem wptr_any (z : List Int) (w : World) (hz : z.length = 32) (hi : ∀ n ∈ z, I64 n) :
    Calls Try.prog 21 #[.agg (ints z).toArray] w fun e w' => e = .returned (.tuple #[secV (wptS z), .int .i64 (wptE z)]) ∧ Below w.heap.size w w' := by
  have HZ := Lib.hid hz
  have HI := Lib.hid hi
  have HCS : Hid ((ints z).toArray.size = 32) := Lib.hid (by rw [List.size_toArray, ints_len, hz])
  have HAT := fun k n h => Lib.hid (ints_at z k n h)
  have hzw := zero_writer
  obtain ⟨C, hC⟩ : ∃ C, (ints z).toArray = C := ⟨_, rfl⟩
  simp only [hC] at HCS HAT ⊢
  have hA := a3 w (.cells C 54 (0, 0)) (.cells Try.zeroCells29 29 (0, 0)) (.cells (wrCells ([], 0)) 137 (0, 0))
  have HA := Lib.hid hA
  clear hz hi hC hA
  go_enter Try.func21, Try.ntmps21
  go_upto_region 2 with fail
  revert HA
  generalize ((w.alloc (.cells C 54 (0, 0))).alloc (.cells Try.zeroCells29 29 (0, 0))).alloc (.cells (wrCells ([], 0)) 137 (0, 0)) = w2
  intro HA
  have hw0 : WrAt w2 (w.heap.size + 1 + 1) (ptrB (z.take 0), 0) := WrAt.zero _ _ HA.out.h2
  have HW0 := Lib.hid hw0
  clear hw0
  go_wp2_with (refine wpList_load_row rfl 54 (.tmp 1) rfl w.heap.size rfl _ _ _ _ HA.out.h0 Try.underlying54 rfl (by rw [HCS.out]; exact infoPtr) ?_)
  go_loopw [8] (fun i wr => ∃ k : Nat, k ≤ 32 ∧ i = .int .i64 (k : Int) ∧ Hid (WrAt wr (w.heap.size + 1 + 1) (ptrB (z.take k), 0)) ∧ Hid (ptrOk (z.take k) = true) ∧ Hid (Below (w.heap.size + 1 + 1) w2 wr)) (fun i _ => (32 - intOf i).toNat)
  case atStart => exact ⟨0, by omega, rfl, HW0, Lib.hid rfl, Lib.hid (Below.refl _ _)⟩
  case round =>
    obtain ⟨k, hk, rfl, HW, HO, HB⟩ := hrel
    clear HW0
    have HTk := Lib.hid ((HB.out.block (w.heap.size + 1) (by omega)).trans HA.out.h1)
    have HBF := Lib.hid (HA.out.bel.trans (HB.out.mono (by omega)))
    by_cases hlt : k < 32
    · obtain ⟨n, hn⟩ : ∃ n, z[k]? = some n := ⟨_, List.getElem?_eq_getElem (by rw [HZ.out]; exact hlt)⟩
      have hix := fun W => run_index_ptr W C k n hlt (HAT k n hn).out
      have hamong := fun W => among_any n 0 65535 W
      obtain ⟨hi1, hi2⟩ := HI.out n (List.mem_of_getElem? hn)
      obtain ⟨q, hq⟩ : ∃ q, inP n = q := ⟨_, rfl⟩
      have hq' : decide (0 ≤ n ∧ n ≤ 65535) = q := hq
      rw [hq'] at hamong
      have HAM := fun W => Lib.hid (hamong W)
      have HN := Lib.hid hn
      have HQ := Lib.hid hq
      clear hn hamong hq hq'
      cases q with
      | true =>
        obtain ⟨hp1, hp2⟩ : 0 ≤ n ∧ n ≤ 65535 := of_decide_eq_true HQ.out
        obtain ⟨m, rfl⟩ : ∃ m : Nat, n = (m : Int) := ⟨n.toNat, by omega⟩
        have hcv : IntKind.u64.wrap (m : Int) = (m : Int) := by rw [IntKind.wrap_u64]; omega
        have hcv2 : (m : Int) % 18446744073709551616 = (m : Int) := by omega
        have hlen : (ptrB (z.take k)).length = 4 * k := by rw [ptrB_len, List.length_take, HZ.out]; omega
        have hst : wNum (ptrB (z.take k), 0) 4 m = (ptrB (z.take (k + 1)), 0) := by
          unfold wNum
          have hp : putOk 128 (ptrB (z.take k)).length 4 m = true := by
            unfold putOk
            rw [hlen, (fitsB_iff _ _ _).2 (by omega), Bool.true_and, decide_eq_true_iff]
            show m < 4294967296
            omega
          rw [if_pos rfl, if_pos hp, ptrB_snoc z k _ HN.out]
          rfl
        have hnum := wnum_any (w.heap.size + 1 + 1) (ptrB (z.take k), 0) 4 m wr (by omega) HW.out
        rw [hst] at hnum
        unfold WrTo at hnum
        have HNUM := Lib.hid hnum
        clear hlen hst hnum
        go_wp2_with (first
          | (go_at_call 61; refine (HAM _).out.mono ?_; rintro e wq ⟨rfl, rfl⟩)
          | (go_at_call 62; go_must (refine HNUM.out.mono ?_; rintro e w4 ⟨rfl, hw4, ho4⟩; have HW4 := Lib.hid hw4; have HB4 := Lib.hid (HB.out.trans (only_below ho4 (Nat.le_refl _))); clear hw4 ho4)))
        have HO4 : Hid (ptrOk (z.take (k + 1)) = true) := Lib.hid (by rw [ptrOk_snoc z k _ HN.out, HO.out, HQ.out]; rfl)
        clear hix
        go_roundw
        case rel => exact ⟨k + 1, by omega, by go_num, HW4, HO4, HB4⟩
        case measure => simp [intOf]; omega
      | false =>
        have hno := ptrOk_at z k n HN.out HQ.out
        have HNO := Lib.hid hno
        clear hno
        go_wp2_with (first
          | (go_at_call 61; refine (HAM _).out.mono ?_; rintro e wq ⟨rfl, rfl⟩)
          | (refine wpList_store_row rfl 29 (.tmp 2) (.tmp 14) rfl (w.heap.size + 1) zArr zArr 29 rfl rfl HTk.out (by rw [zArr_size]; exact size_sec) rfl zArr_one ?_))
        have hld := run_loadVar_row (P := Try.prog) (wr.setRow (w.heap.size + 1) zArr) (w.heap.size + 1) 29 29 zArr (0, 0) _ (setRow_heap _ _ _ _ _ _ HTk.out) Try.underlying29 (by simp) (by rw [zArr_size]; exact size_sec)
        exact bodyPost_ret (v := .tuple #[secV (List.replicate 128 0), .int .i64 1]) (results_cell2 Try.results21 rfl rfl hld) rfl ⟨by unfold wptS wptE; rw [HNO.out]; rfl, below_row HBF.out (by omega)⟩
    · obtain rfl : k = 32 := by omega
      have ht : z.take 32 = z := List.take_of_length_le (by rw [HZ.out]; exact Nat.le_refl _)
      have hO := HO.out
      have hW := HW.out
      rw [ht] at hO hW
      have hl : (ptrB z).length = 128 := by rw [ptrB_len, HZ.out]
      have hsec := wsector_ok _ _ wr hW
      have hzp : zpad 128 (ptrB z) = ptrB z := by unfold zpad; rw [hl]; simp
      rw [hzp] at hsec
      obtain ⟨Q, hQ⟩ : ∃ Q, ptrB z = Q := ⟨_, rfl⟩
      rw [hQ] at hsec hl
      have HQ := Lib.hid hQ
      have HOK := Lib.hid hO
      have HSEC := Lib.hid hsec
      have HSZ : Hid ((bvs Q).toArray.size = 128) := Lib.hid (by rw [secV_size, hl])
      unfold secV at HSEC
      clear ht hO hW hl hsec hzp hQ
      go_wp2_with (first
        | (go_at_call 63; go_must (refine HSEC.out.mono ?_; rintro e w5 ⟨rfl, hb5⟩; have HT5 := Lib.hid (old_heap HTk.out hb5); have HB5 := Lib.hid (bnext HBF.out hb5); clear hb5))
        | (refine wpList_store_row rfl 29 (.tmp 2) (.tmp 20) rfl (w.heap.size + 1) zArr (bvs Q).toArray 29 rfl rfl HT5.out (by rw [HSZ.out]; exact size_sec) (by rw [HSZ.out, zArr_size]) (sec_one _) ?_))
      have hld := run_loadVar_row (P := Try.prog) (w5.setRow (w.heap.size + 1) (bvs Q).toArray) (w.heap.size + 1) 29 29 (bvs Q).toArray (0, 0) _ (setRow_heap _ _ _ _ _ _ HT5.out) Try.underlying29 (by simp) (by rw [HSZ.out]; exact size_sec)
      exact bodyPost_ret (v := .tuple #[secV Q, .int .i64 0]) (results_cell2 Try.results21 rfl rfl hld) rfl ⟨by unfold wptS wptE; rw [HOK.out, if_pos rfl, if_pos rfl, HQ.out], below_row HB5.out (by omega)⟩
end Go.Proofs.Ytlcbfpcabalgcaa
