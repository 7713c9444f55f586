/-
  The superblock: the walks of the program's Super and Read.
-/
import Derived.Test.YtcpfafmkhegckaaGeomC
import Derived.Test.YtcpfafmkhegckaaSealO
import Derived.Test.YtcpfafmkhegckaaSealQ
namespace Go.Proofs.Ytcpfafmkhegckaa
open Go.RowKit
set_option linter.unusedVariables false
set_option linter.unusedSimpArgs false
theorem OnlyAt.trans {g : Nat} {a b c : World} (h : OnlyAt g a b) (k : OnlyAt g b c) : OnlyAt g a c :=
  ⟨⟨k.1.os.trans h.1.os, k.1.tape.trans h.1.tape, k.1.output.trans h.1.output, Nat.le_trans h.1.size k.1.size, fun j hj hne => (k.1.block j (Nat.lt_of_lt_of_le hj h.1.size) hne).trans (h.1.block j hj hne)⟩, k.2.trans h.2⟩
def supL : List Nat → Nat → List UInt8
  | _, 0 => []
  | l, j + 1 => supL l j ++ le 4 (l.getD j 0)
theorem supL_length (l : List Nat) (j : Nat) : (supL l j).length = 4 * j := by
  induction j with
  | zero => rfl
  | succ j ih => simp [supL, ih]; omega
def supB (s g i : Nat) : List UInt8 := le 4 s ++ le 4 g ++ le 4 i
theorem supB_length (s g i : Nat) : (supB s g i).length = 12 := by simp [supB]
theorem supL_three (s g i : Nat) : supL [s, g, i] 3 = supB s g i := by simp [supL, supB]
theorem wNum_sup (l : List Nat) (j : Nat) (hj : j < 3) (hx : l.getD j 0 < 4294967296) : wNum (supL l j, 0) 4 (l.getD j 0) = (supL l (j + 1), 0) := by
  have : putOk 128 (supL l j).length 4 (l.getD j 0) = true := by
    unfold putOk; rw [supL_length, (fitsB_iff _ _ _).2 (by omega)]; simpa using hx
  unfold wNum
  rw [if_pos rfl, if_pos this]; rfl
theorem zpad_take (l : List UInt8) (n : Nat) (h : l.length = n) : (zpad 128 l).take n = l := by
  unfold zpad; rw [List.take_append_of_le_length (by omega), List.take_of_length_le (by omega)]
theorem heap_keep {w w' : World} {g : Nat} {o : Obj} (h : w.heap[g]? = some o) (hb : Below w.heap.size w w') : w'.heap[g]? = some o := (hb.block g (Array.getElem?_eq_some_iff.1 h).1).trans h
set_option maxHeartbeats 1000000 in
set_option maxRecDepth 10000 in
theorem gsuper_any (s g i : Nat) (w : World) (hs : s < 4294967296) (hg : g < 4294967296) (hi : i < 4294967296) :
    Calls Try.prog 11 #[geomV s g i] w fun e w' => e = .returned (secV (sealS 1 (supB s g i))) ∧ Below w.heap.size w w' := by
  have hz := zero_sec
  have hzw := zero_writer
  unfold geomV
  go_enter Try.func11, Try.ntmps11
  go_upto_region 2 with fail
  have hb1 : Below w.heap.size w (w.alloc (.cells #[.int .i64 (s : Int), .int .i64 (g : Int), .int .i64 (i : Int)] 26 (0, 0))) := (Below.refl _ _).alloc (Nat.le_refl _) _
  have hs1 : (w.alloc (.cells #[.int .i64 (s : Int), .int .i64 (g : Int), .int .i64 (i : Int)] 26 (0, 0))).heap.size = w.heap.size + 1 := by simp
  have ha1 := at3_new w 26 (s : Int) (g : Int) (i : Int)
  have ht2 : ((w.alloc (.cells #[.int .i64 (s : Int), .int .i64 (g : Int), .int .i64 (i : Int)] 26 (0, 0))).alloc (.cells zArr 36 (0, 0))).heap[w.heap.size + 1]? = some (.cells zArr 36 (0, 0)) := by
    have := heap_alloc_last (w.alloc (.cells #[.int .i64 (s : Int), .int .i64 (g : Int), .int .i64 (i : Int)] 26 (0, 0))) (.cells zArr 36 (0, 0)); rw [hs1] at this; exact this
  have ha2 := ha1.below ((Below.refl _ _).alloc (Nat.le_refl _) (.cells zArr 36 (0, 0)))
  have hb2 : Below w.heap.size w ((w.alloc (.cells #[.int .i64 (s : Int), .int .i64 (g : Int), .int .i64 (i : Int)] 26 (0, 0))).alloc (.cells zArr 36 (0, 0))) := hb1.alloc hb1.size _
  have hs2 : ((w.alloc (.cells #[.int .i64 (s : Int), .int .i64 (g : Int), .int .i64 (i : Int)] 26 (0, 0))).alloc (.cells zArr 36 (0, 0))).heap.size = w.heap.size + 2 := by simp
  revert ht2 ha2 hb2 hs2
  clear hb1 hs1 ha1
  generalize (w.alloc (.cells #[.int .i64 (s : Int), .int .i64 (g : Int), .int .i64 (i : Int)] 26 (0, 0))).alloc (.cells zArr 36 (0, 0)) = w2
  intro ht2 ha2 hb2 hs2
  have hW3 : WrAt (w2.alloc (.cells (wrCells ([], 0)) 114 (0, 0))) (w.heap.size + 2) ([], 0) := WrAt.zero _ _ (by
    have := heap_alloc_last w2 (.cells (wrCells ([], 0)) 114 (0, 0)); rw [hs2] at this; exact this)
  have ha3 := ha2.below ((Below.refl _ _).alloc (Nat.le_refl _) (.cells (wrCells ([], 0)) 114 (0, 0)))
  have hb3 : Below w2.heap.size w2 (w2.alloc (.cells (wrCells ([], 0)) 114 (0, 0))) := (Below.refl _ _).alloc (Nat.le_refl _) _
  have hs3 : (w2.alloc (.cells (wrCells ([], 0)) 114 (0, 0))).heap.size = w.heap.size + 3 := by simp [hs2]
  revert hW3 ha3 hb3 hs3
  generalize w2.alloc (.cells (wrCells ([], 0)) 114 (0, 0)) = w3
  intro hW3 ha3 hb3 hs3
  obtain ⟨c30, c31, c32⟩ := ha3
  have hg4 := heap_alloc_last w3 (.cells #[.int .i64 (s : Int), .int .i64 (g : Int), .int .i64 (i : Int)] 3 (0, 0))
  have hb4 : Below w3.heap.size w3 (w3.alloc (.cells #[.int .i64 (s : Int), .int .i64 (g : Int), .int .i64 (i : Int)] 3 (0, 0))) := (Below.refl _ _).alloc (Nat.le_refl _) _
  have HG4 := Lib.hid hg4
  have HB4 := Lib.hid hb4
  have HT2 := Lib.hid ht2
  have HB2 := Lib.hid hb2
  have HB3 := Lib.hid hb3
  have HS2 := Lib.hid hs2
  have HS3 := Lib.hid hs3
  have HW3 := Lib.hid hW3
  have HNS : Hid (s < 4294967296 ∧ g < 4294967296 ∧ i < 4294967296) := ⟨hs, hg, hi⟩
  clear hg4 hb4 ht2 hb2 hb3 hs2 hs3 hW3 ha2 hs hg hi
  go_wp2
  clear c30 c31 c32
  have hW4 : WrAt (w3.alloc (.cells #[.int .i64 (s : Int), .int .i64 (g : Int), .int .i64 (i : Int)] 3 (0, 0))) (w.heap.size + 1 + 1) ([], 0) := ⟨HW3.out.1, heap_keep HW3.out.2 HB4.out⟩
  have hT4 := heap_keep HT2.out (HB3.out.trans (HB4.out.mono HB3.out.size))
  have hBw := bnext HB2.out (HB3.out.trans (HB4.out.mono HB3.out.size))
  have hz4 : (w3.alloc (.cells #[.int .i64 (s : Int), .int .i64 (g : Int), .int .i64 (i : Int)] 3 (0, 0))).heap.size = w.heap.size + 4 := by simp [HS3.out]
  have hgs : w3.heap.size = w.heap.size + 3 := HS3.out
  revert hW4 hT4 hBw hz4 HG4
  clear HB4 HB3 HT2 HB2
  generalize w3.alloc (.cells #[.int .i64 (s : Int), .int .i64 (g : Int), .int .i64 (i : Int)] 3 (0, 0)) = w4
  revert hgs
  clear HS3 HW3
  generalize w3.heap.size = gs
  generalize hgw : w.heap.size + 1 + 1 = gw
  intro hgs HG4 hW4 hT4 hBw hz4
  have HW4 := Lib.hid hW4
  have HT4 := Lib.hid hT4
  have HBW := Lib.hid hBw
  have HZ4 := Lib.hid hz4
  have HGS := Lib.hid hgs
  have HGW := Lib.hid hgw
  clear hgs hW4 hT4 hBw hz4 hgw HS2
  have hgd : ∀ j, j < 3 → [s, g, i].getD j 0 < 4294967296 := fun j hj => by
    obtain ⟨h1, h2, h3⟩ := HNS.out
    match j, hj with
    | 0, _ => exact h1
    | 1, _ => exact h2
    | 2, _ => exact h3
  have HGD := Lib.hid hgd
  clear hgd
  go_loopw [5, 18] (fun x k wr => ∃ j : Nat, j ≤ 3 ∧ k = .int .i64 j ∧ Hid (WrAt wr gw (supL [s, g, i] j, 0)) ∧ Hid (OnlyAt gw w4 wr)) (fun _ k _ => (3 - intOf k).toNat)
  case atStart => exact ⟨0, by omega, by rfl, HW4, Lib.hid (OnlyAt.refl _ _)⟩
  case round =>
    obtain ⟨j, hj, rfl, HW, HO⟩ := hrel
    by_cases hlt : j < 3
    · have hcell : wr.cell? ⟨gs, j, none⟩ = some (.int .i64 (([s, g, i].getD j 0 : Nat) : Int)) := by
        have hk : wr.heap[gs]? = w4.heap[gs]? := HO.out.1.block gs (by rw [HZ4.out, HGS.out]; omega) (by have h1 := HGS.out; have h2 := HGW.out; simp; omega)
        have := cell_row (hk.trans HG4.out) j
        rw [this]
        match j, hlt with
        | 0, _ => rfl
        | 1, _ => rfl
        | 2, _ => rfl
      have hxl := HGD.out j hlt
      have hwn := wNum_sup [s, g, i] j hlt hxl
      obtain ⟨x, hx⟩ : ∃ x, x = [s, g, i].getD j 0 := ⟨_, rfl⟩
      rw [← hx] at hcell hxl hwn
      have HN := Lib.hid (wnum_any gw (supL [s, g, i] j, 0) 4 x wr (by omega) HW.out)
      rw [hwn] at HN
      have hx1 : (x : Int) % 4294967296 = (x : Int) := by omega
      have hx2 : (x : Int) % 18446744073709551616 = (x : Int) := by omega
      clear hwn hx hxl
      go_wp2_with (go_at_call 51; refine HN.out.mono ?_; rintro e wn ⟨rfl, hn1, hn2⟩; have HN1 := Lib.hid hn1; have HN2 := Lib.hid (HO.out.trans hn2); clear hn1 hn2)
      exact ⟨⟨j + 1, by omega, by go_num, HN1, HN2⟩, by simp [intOf]; omega⟩
    · obtain rfl : j = 3 := by omega
      rw [supL_three] at HW
      have HN := Lib.hid (wsector_ok gw (supB s g i) wr HW.out)
      have hz12 := zpad_take (supB s g i) 12 (supB_length s g i)
      have hl : (zpad 128 (supB s g i)).length = 128 := zpad_length _ _ (by rw [supB_length]; decide)
      obtain ⟨l, hld⟩ : ∃ l, l = zpad 128 (supB s g i) := ⟨_, rfl⟩
      rw [← hld] at HN hz12 hl
      have HSEC : Hid ((bvs l).toArray.size = 128) := by unfold Hid; rw [secV_size, hl]
      have HL := Lib.hid hl
      have HZ12 := Lib.hid hz12
      have HBR := Lib.hid (HBW.out.trans (only_below HO.out (by have := HGW.out; omega)))
      have HTR := Lib.hid ((HO.out.1.block (w.heap.size + 1) (by rw [HZ4.out]; omega) (by have := HGW.out; simp; omega)).trans HT4.out)
      have HLT : Hid (w.heap.size + 1 < wr.heap.size) := by unfold Hid; rw [HO.out.2, HZ4.out]; omega
      clear hld hz12 hl HO HW hj hlt
      unfold secV at HN
      go_upto_region 8 with (first
        | (go_at_call 52; refine HN.out.mono ?_; rintro e w5 ⟨rfl, h5⟩; have HB5 := Lib.hid h5; clear h5)
        | (refine wpList_store_row rfl 36 (.tmp 6) (.tmp 29) rfl w5.heap.size zArr (bvs l).toArray 36 rfl rfl (heap_alloc_last _ _) (by rw [HSEC.out]; exact size_sec) (by rw [HSEC.out, zArr_size]) (sec_one _) ?_))
      rw [World.setRow_alloc_new]
      have hS6 := heap_alloc_last w5 (.cells (bvs l).toArray 36 (0, 0))
      have hb6 : Below wr.heap.size wr (w5.alloc (.cells (bvs l).toArray 36 (0, 0))) := HB5.out.alloc HB5.out.size _
      have hT6 := (hb6.block (w.heap.size + 1) HLT.out).trans HTR.out
      have hB6 := HBR.out.trans (hb6.mono (by have := HLT.out; omega))
      have hlt6 : w.heap.size + 1 < (w5.alloc (.cells (bvs l).toArray 36 (0, 0))).heap.size := Nat.lt_of_lt_of_le HLT.out hb6.size
      revert hS6 hT6 hB6 hlt6
      clear hb6
      generalize w5.alloc (.cells (bvs l).toArray 36 (0, 0)) = w6
      intro hS6 hT6 hB6 hlt6
      have hbt := byt_take (c := 128) (RdB.row hS6 (fun i hi => by rw [Nat.zero_add, List.getElem?_toArray, bvs_get _ _ hi])) (by rw [HL.out]; omega) (by decide) 12 (by rw [HL.out]; omega)
      rw [HZ12.out] at hbt
      have hm : mayB 1 (supB s g i) = true := (mayB_iff _ _).2 ⟨by decide, by rw [supB_length]; decide⟩
      have hMK : Calls Try.prog 53 #[.int .u8 1, .slice (some ⟨w5.heap.size, 0, none⟩) 12 128] w6 fun e w' => e = .returned (.tuple #[secV (sealS 1 (supB s g i)), .int .i64 0]) ∧ Below w6.heap.size w6 w' := make_yes 1 _ (supB s g i) w6 hbt hm
      have hsl := sealS_length 1 (supB s g i) (by rw [supB_length]; decide)
      obtain ⟨m, hmd⟩ : ∃ m, m = sealS 1 (supB s g i) := ⟨_, rfl⟩
      rw [← hmd] at hMK hsl
      have HMK := Lib.hid hMK
      have HMS : Hid ((bvs m).toArray.size = 128) := by unfold Hid; rw [secV_size, hsl]
      have HT6 := Lib.hid hT6
      have HB6 := Lib.hid hB6
      have HLT6 := Lib.hid hlt6
      have HMD := Lib.hid hmd
      clear hS6 hT6 hB6 hlt6 hbt hm hMK hsl hmd HBR HTR HLT HN
      unfold secV at HMK
      go_upto_region 9 with (first
        | (go_at_call 53; refine HMK.out.mono ?_; rintro e w7 ⟨rfl, h7⟩; have HB7 := Lib.hid h7; clear h7)
        | (refine wpList_store_row rfl 36 (.tmp 8) (.tmp 34) rfl w7.heap.size zArr (bvs m).toArray 36 rfl rfl (heap_alloc_last _ _) (by rw [HMS.out]; exact size_sec) (by rw [HMS.out, zArr_size]) (sec_one _) ?_))
      rw [World.setRow_alloc_new]
      have hS8 := heap_alloc_last w7 (.cells (bvs m).toArray 36 (0, 0))
      have hb8 : Below w6.heap.size w6 (w7.alloc (.cells (bvs m).toArray 36 (0, 0))) := HB7.out.alloc HB7.out.size _
      have hT8 := (hb8.block (w.heap.size + 1) HLT6.out).trans HT6.out
      have hB8 := HB6.out.trans (hb8.mono (by have := HLT6.out; omega))
      revert hS8 hT8 hB8
      clear hb8
      generalize w7.alloc (.cells (bvs m).toArray 36 (0, 0)) = w8
      intro hS8 hT8 hB8
      have HS8 := Lib.hid hS8
      have HT8 := Lib.hid hT8
      have HB8 := Lib.hid hB8
      clear hS8 hT8 hB8 HMK HB7 HT6 HB6 HLT6
      go_wp2_with (first
        | (refine wpList_load_row rfl 36 (.tmp 8) rfl w7.heap.size rfl _ _ _ _ HS8.out Try.underlying36 rfl (by rw [HMS.out]; exact size_sec) ?_)
        | (refine wpList_store_row rfl 36 (.tmp 2) (.tmp 36) rfl (w.heap.size + 1) zArr (bvs m).toArray 36 rfl rfl HT8.out (by rw [HMS.out]; exact size_sec) (by rw [HMS.out, zArr_size]) (sec_one _) ?_))
      have hld := run_loadVar_row (P := Try.prog) (w8.setRow (w.heap.size + 1) (bvs m).toArray) (w.heap.size + 1) 36 36 (bvs m).toArray (0, 0) _ (setRow_heap _ _ _ _ _ _ HT8.out) Try.underlying36 (by simp) (by rw [HMS.out]; exact size_sec)
      refine bodyPost_ret (v := secV m) (results_cell1 Try.results11 rfl hld) rfl ⟨by rw [HMD.out], ?_⟩
      exact HB8.out.trans ⟨rfl, rfl, rfl, by rw [setRow_size]; exact Nat.le_refl _, fun k hk => setRow_other _ _ _ _ (by omega)⟩
/-! ### Read -/
def gE (s g i : Int) : Int := if gMay s g i then 0 else 1
theorem check_any (s g i : Nat) (w : World) : Calls Try.prog 61 #[geomV s g i] w (RetN w (gE s g i)) := by
  cases h : gIn s g i with
  | false =>
    have e : gE s g i = 1 := by unfold gE gMay; rw [h]; rfl
    rw [e]; exact check_out s g i w h
  | true =>
    have e : gE s g i = (if 8 ≤ gRoom s g i then 0 else 1) := by unfold gE gMay; rw [h]; simp
    rw [e]; exact check_in s g i w h
set_option maxHeartbeats 400000 in
theorem rpart_any (b j : Nat) (v : Value) (l : List UInt8) (w : World) (hj : j < 3) (hl : l.length = 12) (hc : w.cell? ⟨b, 0, none⟩ = some v) (hv : Byt w v l) :
    Calls Try.prog 59 #[.int .i64 j, .pointer (some ⟨b, 0, none⟩)] w fun e w' => e = .returned (.int .i64 (part l (4 * j) 4 : Nat)) ∧ w = w' := by
  have hf : fitsB l.length ((4 * j : Nat) : Int) 4 = true := (fitsB_iff _ _ _).2 (by omega)
  have hN : getN l ((4 * j : Nat) : Int) 4 = part l (4 * j) 4 := by unfold getN; rw [hf]; rfl
  have hE : getE l.length ((4 * j : Nat) : Int) 4 = 0 := by unfold getE; rw [hf]; rfl
  have hg := get_any v l ((4 * j : Nat) : Int) 4 w (by omega) hv
  rw [hN, hE] at hg
  have hp := part_lt l (4 * j) 4
  obtain ⟨x, hx⟩ : ∃ x, x = part l (4 * j) 4 := ⟨_, rfl⟩
  rw [← hx] at hg hp ⊢
  have HG := Lib.hid hg
  have hp2 : x < 4294967296 := by simpa using hp
  have hw1 : wrap64 (4 * (j : Int)) = ((4 * j : Nat) : Int) := by rw [← i64_w, Int.natCast_mul]; exact IntWalk.i64_in _ (by omega)
  have hw2 : wrap64 (x : Int) = (x : Int) := by rw [← i64_w]; exact IntWalk.i64_in _ (by omega)
  clear hf hN hE hg hp hx hv
  go_enter Try.func59, Try.ntmps59
  go_wp2_with (go_at_call 60; refine HG.out.mono ?_; rintro e w1 ⟨rfl, rfl⟩)
  go_ret
  exact ⟨rfl, rfl⟩
end Go.Proofs.Ytcpfafmkhegckaa
