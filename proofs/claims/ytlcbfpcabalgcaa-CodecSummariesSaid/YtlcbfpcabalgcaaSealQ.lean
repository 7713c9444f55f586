/-
  Sealed sectors: the walk of the reference's Open.
-/
import Derived.Test.YtlcbfpcabalgcaaSealR
namespace Go.Proofs.Ytlcbfpcabalgcaa
open Go.RowKit
set_option linter.unusedVariables false
set_option linter.unusedSimpArgs false
theorem equal_array (w : World) (xs ys : List UInt8) (hx : xs.length = 128) (hy : ys.length = 128) : (Op.equalIn 10000 28 (secV xs) (secV ys)).run Try.prog w = .ok (decide (xs = ys)) w :=
  (have h : ∃ i, Try.prog.info? 5 = some i := by
    cases hi : Try.prog.info? 5 with
    | none => have := infoU8; rw [hi] at this; cases this
    | some i => exact ⟨i, rfl⟩
   let ⟨i, hi⟩ := h
   equal_sec Try.underlying28 hi (by kernel_rfl) (by kernel_rfl) Try.underlying5 w xs ys hx hy)
/-- What the reference's Open comes to. -/
def RopTo (w : World) (k : UInt8) (l : List UInt8) (b : Bool) (e : Ending) (w' : World) : Prop := ∃ v, e = .returned (.tuple #[.int .u8 (k.toNat : Int), v, .bool b]) ∧ w'.ownsRow w.heap.size 5 1 v l.length (bvs l) ∧ Below w.heap.size w w'
theorem own_none (w : World) (base e : Nat) : w.ownsRow base e 1 (.slice none 0 0) 0 (bvs []) := ⟨by simp [bvs], .inl ⟨rfl, rfl⟩⟩
theorem ropTo_no {l : List UInt8} {w w' : World} {e : Ending} (h : openB l = false) (he : e = .returned (.tuple #[.int .u8 0, .slice none 0 0, .bool false])) (hb : Below w.heap.size w w') :
    RopTo w (openK l) (openL l) (openB l) e w' := by
  unfold openK openL
  rw [h]
  exact ⟨_, he, own_none _ _ _, hb⟩
theorem ropTo_yes {l : List UInt8} {w w' : World} {e : Ending} {v : Value} {k : UInt8} {b : List UInt8} {n : Nat} (h : openB l = true) (hk : k = l.getD 2 0) (hb' : b = bodyOf l) (he : e = .returned (.tuple #[.int .u8 (k.toNat : Int), v, .bool true])) (ho : w'.ownsRow w.heap.size 5 1 v n (bvs b)) (hb : Below w.heap.size w w') :
    RopTo w (openK l) (openL l) (openB l) e w' := by
  unfold openK openL
  rw [h, if_pos rfl, if_pos rfl, ← hk, ← hb']
  have hn := (own_byt ho).2
  subst hn
  exact ⟨_, he, ho, hb⟩
theorem body_step (l : List UInt8) (j : Nat) (h : 4 + j < l.length) : (l.drop 4).take (j + 1) = (l.drop 4).take j ++ [l.getD (4 + j) 0] := by
  have hj : j < (l.drop 4).length := by simp; omega
  rw [List.take_succ_eq_append_getElem hj]
  simp only [List.getElem_drop, List.getD_eq_getElem?_getD]
  rw [List.getElem?_eq_getElem h]; rfl
set_option maxHeartbeats 1000000 in
set_option maxRecDepth 10000 in
theorem ropen_any (l : List UInt8) (w : World) (hl : l.length = 128) :
    Calls Try.prog 59 #[secV l] w (RopTo w (openK l) (openL l) (openB l)) := by
  have HL := Lib.hid hl
  have hz := zero_arr
  have hsz : (bvs l).toArray.size = 128 := by rw [secV_size, hl]
  have HSZ := Lib.hid hsz
  have hg1 := heap_alloc_last w (.cells (bvs l).toArray 28 (0, 0))
  have hb1 : Below w.heap.size w (w.alloc (.cells (bvs l).toArray 28 (0, 0))) := (Below.refl _ _).alloc (Nat.le_refl _) _
  have hs1 : (w.alloc (.cells (bvs l).toArray 28 (0, 0))).heap.size = w.heap.size + 1 := by simp
  have HG1 := Lib.hid hg1
  have HB1 := Lib.hid hb1
  have HS1 := Lib.hid hs1
  obtain ⟨k, hkd⟩ : ∃ k, k = l.getD 2 0 := ⟨_, rfl⟩
  obtain ⟨n, hnd⟩ : ∃ n, n = (l.getD 3 0).toNat := ⟨_, rfl⟩
  have hn8 : n < 256 := by rw [hnd]; exact UInt8.toNat_lt _
  have HKD := Lib.hid hkd
  have HND := Lib.hid hnd
  clear hl hsz hg1 hb1 hs1 hkd hnd
  unfold secV
  go_enter Try.func59, Try.ntmps59
  go_upto_region 1 with fail
  revert HG1 HB1 HS1
  generalize w.alloc (.cells (bvs l).toArray 28 (0, 0)) = w1
  intro HG1 HB1 HS1
  have hR : Hid (∀ wr, Below w1.heap.size w1 wr → ∀ i, i < 128 → wr.cell? ⟨w.heap.size, i, none⟩ = some (.int .u8 ((l.getD i 0).toNat : Int))) := fun wr hb i hi => by
    rw [hb.cell (p := ⟨w.heap.size, i, none⟩) (by show w.heap.size < _; rw [HS1.out]; omega), cell_row HG1.out, List.getElem?_toArray, bvs_get _ _ (by rw [HL.out]; exact hi)]
  have c3 : w1.cell? ⟨w.heap.size, 3, none⟩ = some (.int .u8 (n : Int)) := by rw [HND.out]; exact hR.out w1 (Below.refl _ _) 3 (by decide)
  by_cases hn : 120 < n
  · have hob : openB l = false := by unfold openB; rw [← HND.out, decide_eq_false (show ¬ n ≤ 120 by omega)]; rfl
    have HOB := Lib.hid hob
    have hnn : (120 : Int) < (n : Int) := by omega
    clear hob hn
    go_wp2
    go_ret3
    exact ropTo_no HOB.out rfl HB1.out
  · have hnn : ¬ ((120 : Int) < (n : Int)) := by omega
    have HN := Lib.hid hn
    clear hn
    go_wp2
    clear c3 hnn hn8
    go_loopw [5, 6] (fun v i wr => ∃ j : Nat, j ≤ n ∧ i = .int .i64 j ∧ Hid (wr.ownsRow w1.heap.size 5 1 v j (bvs ((l.drop 4).take j))) ∧ Hid (Below w1.heap.size w1 wr)) (fun _ i _ => (n - intOf i).toNat)
    case atStart => exact ⟨0, by omega, by rfl, Lib.hid (by simpa using own_none w1 w1.heap.size 5), Lib.hid (Below.refl _ _)⟩
    case round =>
      obtain ⟨j, hj, rfl, HO, HBB⟩ := hrel
      have c3 : wr.cell? ⟨w.heap.size, 3, none⟩ = some (.int .u8 (n : Int)) := by rw [HND.out]; exact hR.out wr HBB.out 3 (by decide)
      have hsz := HBB.out.size
      have hn120 : n ≤ 120 := by have := HN.out; omega
      by_cases hlt : j < n
      · have c4 := hR.out wr HBB.out (4 + j) (by omega)
        have hnext := body_step l j (by rw [HL.out]; omega)
        obtain ⟨x, hx⟩ : ∃ x, x = l.getD (4 + j) 0 := ⟨_, rfl⟩
        rw [← hx] at c4 hnext
        have HNX := Lib.hid hnext
        clear hnext hx
        have hrd := rd_one (heap_alloc_new wr (.cells #[.int .u8 (x.toNat : Int)] 5 (0, 0))) 1
        have hbel2 := HBB.out.alloc hsz (.cells #[.int .u8 (x.toNat : Int)] 5 (0, 0))
        have hown := HO.out.alloc (.cells #[.int .u8 (x.toNat : Int)] 5 (0, 0))
        have HW := Lib.hid hown
        have HR := Lib.hid hrd
        have HBE := Lib.hid hbel2
        clear hrd hbel2 hown hsz
        have hz1 : (0 : Int) ≤ 4 + (j : Int) := by omega
        have hz2 : 4 + (j : Int) < 128 := by omega
        go_wp2_with (at_builtin; refine wpList_append_rd _ rfl (.tmp 19) (.tmp 24) 26 rfl w1.heap.size 5 (.int .u8 0) 1 1 Try.underlying26 infoU8 rfl (by decide) _ _ _ rfl HW.out _ 1 [.int .u8 (x.toNat : Int)] rfl HR.out ?c1 ?c2 (by decide) HBE.out.size ?_; (case c1 => intro u hu; simp at hu; subst hu; rfl); (case c2 => omega); intro v3 w3 hown3 hbel3 hg3; have HO3 := Lib.hid hown3; have HB3 := Lib.hid (HBE.out.trans hbel3); clear hown3 hbel3 hg3)
        go_roundw
        case rel =>
          refine ⟨j + 1, by omega, by go_num, Lib.hid ?_, HB3⟩
          rw [HNX.out, bvs_append]
          exact HO3.out
        case measure => simp [intOf]; omega
      · obtain rfl : j = n := by omega
        have hbody : (l.drop 4).take j = bodyOf l := by rw [HND.out]; rfl
        obtain ⟨b, hbd⟩ : ∃ b, b = bodyOf l := ⟨_, rfl⟩
        rw [hbody, ← hbd] at HO
        have HBD := Lib.hid hbd
        have c2 : wr.cell? ⟨w.heap.size, 2, none⟩ = some (.int .u8 (k.toNat : Int)) := by rw [HKD.out]; exact hR.out wr HBB.out 2 (by decide)
        have hoe : openB l = (mayB k b && decide (makeS k b = l)) := by
          rw [hbd]
          unfold openB makeS
          rw [← HKD.out, ← HND.out, decide_eq_true (show j ≤ 120 by omega), Bool.true_and]
          cases mayB k (bodyOf l) <;> simp
        have HOE := Lib.hid hoe
        clear hbody hbd hoe
        have HBY := Lib.hid (own_byt HO.out).1
        have hml := makeS_length k b
        have HMS : Hid ((bvs (makeS k b)).toArray.size = 128) := by unfold Hid; rw [secV_size, hml]
        have HMK := Lib.hid (rmake_any k _ b wr HBY.out)
        have heq : ∀ W : World, (Op.equalIn 10000 28 (.agg (bvs (makeS k b)).toArray) (.agg (bvs l).toArray)).run Try.prog W = .ok (decide (makeS k b = l)) W := fun W => equal_array W _ _ hml HL.out
        obtain ⟨m, hm⟩ : ∃ m, m = makeS k b := ⟨_, rfl⟩
        rw [← hm] at HMS HMK HOE heq
        have hwj : wrap64 (j : Int) = (j : Int) := by rw [← i64_w]; exact IntWalk.i64_in _ (by omega)
        clear hm hml hsz hlt hj hn120
        unfold secV at HMK
        go_upto_region 9 with (first
          | (go_at_call 57; refine HMK.out.mono ?_; rintro e w7 ⟨rfl, h7⟩; have HB7 := Lib.hid h7; clear h7)
          | (refine wpList_store_row rfl 28 (.tmp 7) (.tmp 31) rfl w7.heap.size zArr (bvs m).toArray 28 rfl rfl (heap_alloc_last _ _) (by rw [HMS.out]; exact size_arr) (by rw [HMS.out, zArr_size]) (sec_one _) ?_))
        rw [World.setRow_alloc_new]
        have hG8 := heap_alloc_last w7 (.cells (bvs m).toArray 28 (0, 0))
        have hB7 : Below w1.heap.size w1 w7 := HBB.out.trans (HB7.out.mono HBB.out.size)
        have hB8 : Below w1.heap.size w1 (w7.alloc (.cells (bvs m).toArray 28 (0, 0))) := hB7.alloc hB7.size _
        have hO8 := (own_below HO.out HB7.out).alloc (.cells (bvs m).toArray 28 (0, 0))
        revert hG8 hB8 hO8
        generalize w7.alloc (.cells (bvs m).toArray 28 (0, 0)) = w8
        intro hG8 hB8 hO8
        have hT8 := (hB8.block w.heap.size (by rw [HS1.out]; omega)).trans HG1.out
        have c8 : w8.cell? ⟨w.heap.size, 2, none⟩ = some (.int .u8 (k.toNat : Int)) := by rw [HKD.out]; exact hR.out w8 hB8 2 (by decide)
        have HG8 := Lib.hid hG8
        have HT8 := Lib.hid hT8
        have HB8 := Lib.hid (HB1.out.trans (hB8.mono (by rw [HS1.out]; omega)))
        have HO8 := Lib.hid (own_mono (base' := w.heap.size) hO8 (by have := HS1.out; omega))
        clear hG8 hT8 hB8 hO8 hB7 HO HBB HBY HMK HB7 hR c2 c3
        cases hm : mayB k b with
        | true =>
          rw [hm] at HOE
          rw [Bool.true_and] at HOE
          go_wp2_with (first
            | (refine wpList_load_row_g rfl 28 (.tmp 7) rfl w7.heap.size rfl _ _ _ _ HG8.out Try.underlying28 rfl (by rw [HMS.out]; exact size_arr) ?_)
            | (refine wpList_load_row_g rfl 28 (.tmp 1) rfl w.heap.size rfl _ _ _ _ HT8.out Try.underlying28 rfl (by rw [HSZ.out]; exact size_arr) ?_))
          · rename_i hq
            go_ret3
            refine ropTo_no ?_ rfl HB8.out
            rw [HOE.out]; simpa using hq
          · rename_i hq
            go_ret3
            refine ropTo_yes ?_ HKD.out HBD.out rfl HO8.out HB8.out
            rw [HOE.out]; simpa using hq
        | false =>
          rw [hm] at HOE
          rw [Bool.false_and] at HOE
          go_wp2
          go_ret3
          exact ropTo_no HOE.out rfl HB8.out
end Go.Proofs.Ytlcbfpcabalgcaa
