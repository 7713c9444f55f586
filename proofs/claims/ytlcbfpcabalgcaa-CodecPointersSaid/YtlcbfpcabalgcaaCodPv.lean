/-
  Codec: pointers: the reference's writing.
-/
import Derived.Test.YtlcbfpcabalgcaaCodPu
namespace Go.Proofs.Ytlcbfpcabalgcaa
open Go.RowKit
set_option linter.unusedVariables false
set_option linter.unusedSimpArgs false
set_option linter.unnecessarySimpa false
theorem full_ptr (z : List Int) (h : z.length = 32) : full (ptrB z) = ptrB z := by
  have hl : (ptrB z).length = 128 := by rw [ptrB_len, h]
  unfold full
  simp [hl, List.take_of_length_le]
def RwP (w : World) (z : List Int) (e : Ending) (w' : World) : Prop := e = .returned (.tuple #[secV (wptS z), .bool (ptrOk z)]) ∧ Below w.heap.size w w'
theorem rwP_no {w w' : World} {z : List Int} {e : Ending} (h : ptrOk z = false) (he : e = .returned (.tuple #[secV (List.replicate 128 0), .bool false])) (hb : Below w.heap.size w w') : RwP w z e w' := by
  unfold RwP wptS; rw [h]; exact ⟨he, hb⟩
theorem rwP_yes {w w' : World} {z : List Int} {e : Ending} (h : ptrOk z = true) (he : e = .returned (.tuple #[secV (ptrB z), .bool true])) (hb : Below w.heap.size w w') : RwP w z e w' := by
  unfold RwP wptS; rw [h, if_pos rfl]; exact ⟨he, hb⟩
set_option maxRecDepth 10000 in
set_option maxHeartbeats 8000000 in
theorem rwptr_any (z : List Int) (w : World) (hz : z.length = 32) (hi : ∀ n ∈ z, I64 n) :
    Calls Try.prog 22 #[.agg (ints z).toArray] w (RwP w z) := by
  have HZ := Lib.hid hz
  have HI := Lib.hid hi
  have HCS : Hid ((ints z).toArray.size = 32) := Lib.hid (by rw [List.size_toArray, ints_len, hz])
  have HAT := fun k n h => Lib.hid (ints_at z k n h)
  obtain ⟨C, hC⟩ : ∃ C, (ints z).toArray = C := ⟨_, rfl⟩
  simp only [hC] at HCS HAT ⊢
  have hb2 : Below w.heap.size w ((w.alloc (.cells C 54 (0, 0))).alloc (.cells Try.zeroCells28 28 (0, 0))) := ((Below.refl _ _).alloc (Nat.le_refl _) _).alloc (by simp) _
  have hT2 := heap_alloc_last (w.alloc (.cells C 54 (0, 0))) (.cells Try.zeroCells28 28 (0, 0))
  have hG2 := old_heap (heap_alloc_last w (.cells C 54 (0, 0))) ((Below.refl (w.alloc (.cells C 54 (0, 0))).heap.size (w.alloc (.cells C 54 (0, 0)))).alloc (Nat.le_refl _) (.cells Try.zeroCells28 28 (0, 0)))
  have hs2 : ((w.alloc (.cells C 54 (0, 0))).alloc (.cells Try.zeroCells28 28 (0, 0))).heap.size = w.heap.size + 1 + 1 := by simp
  rw [show (w.alloc (.cells C 54 (0, 0))).heap.size = w.heap.size + 1 from by simp] at hT2
  have HT2 := Lib.hid hT2
  have HG2 := Lib.hid hG2
  have HB2 := Lib.hid hb2
  have HS2 := Lib.hid hs2
  clear hz hi hC hb2 hT2 hG2 hs2
  go_enter Try.func22, Try.ntmps22
  go_wp2
  revert HT2 HG2 HB2 HS2
  generalize (w.alloc (.cells C 54 (0, 0))).alloc (.cells Try.zeroCells28 28 (0, 0)) = w2
  intro HT2 HG2 HB2 HS2
  go_loopw [4, 5] (fun vb i wr => ∃ k : Nat, k ≤ 32 ∧ i = .int .i64 (k : Int) ∧ Hid (wr.ownsRow w2.heap.size 5 1 vb (ptrB (z.take k)).length (bvs (ptrB (z.take k)))) ∧ Hid (ptrOk (z.take k) = true) ∧ Hid (Below w2.heap.size w2 wr)) (fun _ i _ => (32 - intOf i).toNat)
  case atStart => exact ⟨0, by omega, rfl, Lib.hid (own_none _ _ _), Lib.hid rfl, Lib.hid (Below.refl _ _)⟩
  case round =>
    obtain ⟨k, hk, rfl, HO, HF, HBB⟩ := hrel
    obtain ⟨sb, cb, rfl⟩ := own_slice1 HO.out
    have HT4 := Lib.hid ((HBB.out.block (w.heap.size + 1) (by rw [HS2.out]; omega)).trans HT2.out)
    have HB4 := Lib.hid (HB2.out.trans (HBB.out.mono (by rw [HS2.out]; omega)))
    have hfl : (ptrB (z.take k)).length = 4 * k := by rw [ptrB_len, List.length_take, HZ.out]; omega
    by_cases hlt : k < 32
    · obtain ⟨n, hn⟩ : ∃ n, z[k]? = some n := ⟨_, List.getElem?_eq_getElem (by rw [HZ.out]; exact hlt)⟩
      obtain ⟨hi1, hi2⟩ := HI.out n (List.mem_of_getElem? hn)
      have hck : w2.cell? ⟨w.heap.size, k, none⟩ = some (.int .i64 n) := (cell_row HG2.out k).trans (HAT k n hn).out
      have hbl : w.heap.size < w2.heap.size := by rw [HS2.out]; omega
      have ck : wr.cell? ⟨w.heap.size, k, none⟩ = some (.int .i64 n) := (HBB.out.cell (p := ⟨w.heap.size, k, none⟩) hbl).trans hck
      have HCK := Lib.hid hck
      have HN := Lib.hid hn
      clear hck hn
      obtain ⟨q, hq⟩ : ∃ q, inP n = q := ⟨_, rfl⟩
      have HQ := Lib.hid hq
      have hq' : decide (0 ≤ n ∧ n ≤ 65535) = q := hq
      clear hq
      cases q with
      | false =>
        have hno := ptrOk_at z k n HN.out HQ.out
        have HNO := Lib.hid hno
        have hor : ¬ (0 ≤ n ∧ n ≤ 65535) := of_decide_eq_false hq'
        clear hno hq'
        by_cases hneg : n < 0
        · have hnd : decide (n < 0) = true := by simpa using hneg
          clear hor
          go_wp2_with (refine wpList_store_row rfl 28 (.tmp 2) (.tmp 20) rfl (w.heap.size + 1) zArr zArr 28 rfl rfl HT4.out (by rw [zArr_size]; exact size_arr) rfl zArr_one ?_)
          have hld := run_loadVar_row (P := Try.prog) (wr.setRow (w.heap.size + 1) zArr) (w.heap.size + 1) 28 28 zArr (0, 0) _ (setRow_heap _ _ _ _ _ _ HT4.out) Try.underlying28 (by simp) (by rw [zArr_size]; exact size_arr)
          exact bodyPost_ret (v := .tuple #[secV (List.replicate 128 0), .bool false]) (results_cell2 Try.results22 rfl rfl hld) rfl (rwP_no HNO.out rfl (below_row HB4.out (by omega)))
        · have hnd : decide (n < 0) = false := by simpa using hneg
          have hgt : 65535 < n := by omega
          have hgd : decide (65535 < n) = true := by simpa using hgt
          clear hor
          go_wp2_with (refine wpList_store_row rfl 28 (.tmp 2) (.tmp 20) rfl (w.heap.size + 1) zArr zArr 28 rfl rfl HT4.out (by rw [zArr_size]; exact size_arr) rfl zArr_one ?_)
          have hld := run_loadVar_row (P := Try.prog) (wr.setRow (w.heap.size + 1) zArr) (w.heap.size + 1) 28 28 zArr (0, 0) _ (setRow_heap _ _ _ _ _ _ HT4.out) Try.underlying28 (by simp) (by rw [zArr_size]; exact size_arr)
          exact bodyPost_ret (v := .tuple #[secV (List.replicate 128 0), .bool false]) (results_cell2 Try.results22 rfl rfl hld) rfl (rwP_no HNO.out rfl (below_row HB4.out (by omega)))
      | true =>
        obtain ⟨hp1, hp2⟩ : 0 ≤ n ∧ n ≤ 65535 := of_decide_eq_true hq'
        clear hq'
        obtain ⟨m, rfl⟩ : ∃ m : Nat, n = (m : Int) := ⟨n.toNat, by omega⟩
        have hcv : IntKind.u64.wrap (m : Int) = (m : Int) := by rw [IntKind.wrap_u64]; omega
        have hnd : decide ((m : Int) < 0) = false := decide_eq_false (by omega)
        have hgd : decide (65535 < (m : Int)) = false := decide_eq_false (by omega)
        have hg1 : ¬ (65535 < (m : Int)) := by omega
        have hg2 : ¬ (65535 < m) := by omega
        clear HT4 HB4
        go_upto_region 7 with fail
        clear hg1 hg2
        have HLO := fun w' => Lib.hid (low_any m 4 w' (by omega) (by omega))
        have HFL := Lib.hid hfl
        clear hfl
        go_wp2_with (first
          | (go_at_call 56; go_must (refine (HLO _).out.mono ?_; rintro e w6 ⟨v6, rfl, ho6, hb6⟩; have HR6 := Lib.hid (own_rd ho6); have HO6 := Lib.hid (own_below HO.out hb6); have HB6 := Lib.hid (HBB.out.trans (hb6.mono HBB.out.size)); clear ho6 hb6))
          | (at_builtin; refine wpList_append_rd _ rfl (.tmp 21) (.tmp 26) 26 rfl w2.heap.size 5 (.int .u8 0) 1 1 Try.underlying26 infoU8 rfl (by decide) _ _ _ rfl HO6.out _ _ (bvs (le 4 m)) rfl HR6.out (bvs_oneCell _) ?c2 (by decide) HB6.out.size ?_; (case c2 => rw [HFL.out, le_length]; omega); intro v7 w7 hown7 hbel7 hg7; have HO7 := Lib.hid hown7; have HB7 := Lib.hid (HB6.out.trans hbel7); clear hown7 hbel7 hg7))
        clear HR6 HO6 HB6 HLO HO HBB
        have HO8 : Hid (w7.ownsRow w2.heap.size 5 1 v7 (ptrB (z.take (k + 1))).length (bvs (ptrB (z.take (k + 1))))) := Lib.hid (by
          have := HO7.out
          rw [← bvs_append, ← List.length_append] at this
          rw [ptrB_snoc z k _ HN.out]
          exact this)
        have HF8 : Hid (ptrOk (z.take (k + 1)) = true) := Lib.hid (by rw [ptrOk_snoc z k _ HN.out, HF.out, HQ.out]; rfl)
        clear HO7 HF
        go_roundw
        case rel => exact ⟨k + 1, by omega, by go_num, HO8, HF8, HB7⟩
        case measure => simp [intOf]; omega
    · obtain rfl : k = 32 := by omega
      have ht : z.take 32 = z := List.take_of_length_le (by rw [HZ.out]; exact Nat.le_refl _)
      rw [ht] at HO HF hfl ⊢
      clear ht
      have hl : (ptrB z).length = 128 := hfl
      have hfu := full_any _ (ptrB z) wr (by rw [hl]; omega) (own_byt HO.out).1
      rw [full_ptr z HZ.out] at hfu
      have hsz : (bvs (ptrB z)).toArray.size = 128 := by rw [secV_size, hl]
      obtain ⟨Q, hQ⟩ : ∃ Q, ptrB z = Q := ⟨_, rfl⟩
      rw [hQ] at hfu hsz ⊢
      have HQ := Lib.hid hQ
      have HFU := Lib.hid hfu
      have HMS := Lib.hid hsz
      clear hQ hfu hsz hl hfl
      unfold secV at HFU
      go_wp2_with (first
        | (go_at_call 24; refine HFU.out.mono ?_; rintro e w5 ⟨rfl, hb5⟩; have HT5 := Lib.hid (old_heap HT4.out hb5); have HB5 := Lib.hid (bnext HB4.out hb5); clear hb5)
        | (refine wpList_store_row rfl 28 (.tmp 2) (.tmp 29) rfl (w.heap.size + 1) zArr (bvs Q).toArray 28 rfl rfl HT5.out (by rw [HMS.out]; exact size_arr) (by rw [HMS.out, zArr_size]) (sec_one _) ?_))
      have hld := run_loadVar_row (P := Try.prog) (w5.setRow (w.heap.size + 1) (bvs Q).toArray) (w.heap.size + 1) 28 28 (bvs Q).toArray (0, 0) _ (setRow_heap _ _ _ _ _ _ HT5.out) Try.underlying28 (by simp) (by rw [HMS.out]; exact size_arr)
      exact bodyPost_ret (v := .tuple #[secV Q, .bool true]) (results_cell2 Try.results22 rfl rfl hld) rfl (rwP_yes HF.out (by rw [HQ.out]) (below_row HB5.out (by omega)))
end Go.Proofs.Ytlcbfpcabalgcaa
