/-
  The superblock: the walks of the reference's Super and Read.
-/
import Derived.Test.YteepgdfjbpfakaaGeomB
import Derived.Test.YteepgdfjbpfakaaGeomE
namespace Go.Proofs.Yteepgdfjbpfakaa
open Go.RowKit
set_option linter.unusedVariables false
set_option linter.unusedSimpArgs false
theorem At3.at_ {b B : Nat} {s g i : Int} {w w' : World} (h : At3 b s g i w) (hb : Below B w w') (hlt : b < B) : At3 b s g i w' :=
  ⟨(hb.cell (p := ⟨b, 0, none⟩) hlt).trans h.1, (hb.cell (p := ⟨b, 1, none⟩) hlt).trans h.2.1, (hb.cell (p := ⟨b, 2, none⟩) hlt).trans h.2.2⟩
theorem supB_two (s g i : Nat) : (le 4 s ++ le 4 g) ++ le 4 i = supB s g i := rfl
set_option maxHeartbeats 1000000 in
set_option maxRecDepth 10000 in
theorem rsuper_any (s g i : Nat) (w : World) (hs : s < 4294967296) (hg : g < 4294967296) (hi : i < 4294967296) :
    Calls Try.prog 31 #[geomV s g i] w fun e w' => e = .returned (secV (sealS 1 (supB s g i))) ∧ Below w.heap.size w w' := by
  have hza := zero_arr
  unfold geomV
  go_enter Try.func31, Try.ntmps31
  go_upto_region 1 with fail
  have ha1 := at3_new w 23 (s : Int) (g : Int) (i : Int)
  have hs1 : (w.alloc (.cells #[.int .i64 (s : Int), .int .i64 (g : Int), .int .i64 (i : Int)] 23 (0, 0))).heap.size = w.heap.size + 1 := by simp
  have hT2 := heap_alloc_last (w.alloc (.cells #[.int .i64 (s : Int), .int .i64 (g : Int), .int .i64 (i : Int)] 23 (0, 0))) (.cells zArr 46 (0, 0))
  rw [hs1] at hT2
  have ha2 := ha1.below ((Below.refl _ _).alloc (Nat.le_refl _) (.cells zArr 46 (0, 0)))
  have hb2 : Below w.heap.size w ((w.alloc (.cells #[.int .i64 (s : Int), .int .i64 (g : Int), .int .i64 (i : Int)] 23 (0, 0))).alloc (.cells zArr 46 (0, 0))) := ((Below.refl _ _).alloc (Nat.le_refl _) _).alloc (by simp) _
  revert ha2 hT2 hb2
  clear ha1 hs1
  generalize (w.alloc (.cells #[.int .i64 (s : Int), .int .i64 (g : Int), .int .i64 (i : Int)] 23 (0, 0))).alloc (.cells zArr 46 (0, 0)) = w2
  intro hT2 ha2 hb2
  have HLT : Hid (w.heap.size < w2.heap.size) := World.block_lt_of_cell? w2 _ ha2.1
  have HA2 := Lib.hid ha2
  have c : w2.drew.cell? ⟨w.heap.size, 0, none⟩ = some (.int .i64 (s : Int)) ∧ w2.drew.cell? ⟨w.heap.size, 1, none⟩ = some (.int .i64 (g : Int)) := ⟨ha2.1, ha2.2.1⟩
  have HT2 := Lib.hid hT2
  have HB2 := Lib.hid hb2
  have hx0 : IntKind.u64.wrap (s : Int) = (s : Int) := by rw [IntKind.wrap_u64]; omega
  have hx1 : IntKind.u64.wrap (g : Int) = (g : Int) := by rw [IntKind.wrap_u64]; omega
  have HNS : Hid (s < 4294967296 ∧ g < 4294967296 ∧ i < 4294967296) := ⟨hs, hg, hi⟩
  have HL0 : ∀ w', Hid (Calls Try.prog 46 #[.int .u64 (s : Int), .int .i64 4] w' (RetB 5 w' (le 4 s))) := fun w' => low_any s 4 w' (by have := HNS.out; omega) (by decide)
  have HL1 : ∀ w', Hid (Calls Try.prog 46 #[.int .u64 (g : Int), .int .i64 4] w' (RetB 5 w' (le 4 g))) := fun w' => low_any g 4 w' (by have := HNS.out; omega) (by decide)
  have HL2 : ∀ w', Hid (Calls Try.prog 46 #[.int .u64 (i : Int), .int .i64 4] w' (RetB 5 w' (le 4 i))) := fun w' => low_any i 4 w' (by have := HNS.out; omega) (by decide)
  clear ha2 hT2 hb2 hs hg hi
  go_region_held3 (fun w' => w'.cell? ⟨w.heap.size, 0, none⟩ = some (.int .i64 (s : Int)) ∧ w'.cell? ⟨w.heap.size, 1, none⟩ = some (.int .i64 (g : Int))) (first | exact c | exact c3 | exact c4 | exact c5)
    (first
      | (have q := c3; clear q; go_at_call 46; refine (HL1 _).out.mono ?_; rintro e w4 ⟨v4, rfl, ho4, hb4⟩; have c4 : w4.cell? ⟨w.heap.size, 0, none⟩ = some (.int .i64 (s : Int)) ∧ w4.cell? ⟨w.heap.size, 1, none⟩ = some (.int .i64 (g : Int)) := by { have q := HA3.out.below hb4; exact ⟨q.1, q.2.1⟩ }; have HA4 := Lib.hid (HA3.out.below hb4); have HO3' := Lib.hid (own_below HO3.out hb4); have HO4 := Lib.hid (own_rd ho4); have HB4 := Lib.hid (HB3.out.trans (hb4.mono HB3.out.size)); clear ho4 hb4)
      | (go_at_call 46; refine (HL0 _).out.mono ?_; rintro e w3 ⟨v3, rfl, ho3, hb3⟩; have HA3 := Lib.hid (At3.below (w := w2.drew) HA2.out hb3); have c3 : w3.cell? ⟨w.heap.size, 0, none⟩ = some (.int .i64 (s : Int)) ∧ w3.cell? ⟨w.heap.size, 1, none⟩ = some (.int .i64 (g : Int)) := ⟨HA3.out.1, HA3.out.2.1⟩; have HO3 := Lib.hid ho3; have HB3 : Hid (Below w2.heap.size w2.drew w3) := Lib.hid hb3; clear ho3 hb3)
      | (refine step_append_rd rfl (.tmp 9) (.tmp 13) 45 rfl w2.heap.size 5 (.int .u8 0) 1 1 Try.underlying45 infoU8 rfl (by decide) _ _ _ rfl HO3'.out _ _ (bvs (le 4 g)) rfl HO4.out (bvs_oneCell _) ?c2 (by decide) HB4.out.size ?_; (case c2 => simp); intro v5 w5 hown5 hbel5 hg5; have HA5 := Lib.hid (HA4.out.at_ hbel5 HLT.out); have HO5 := Lib.hid hown5; have HB5 := Lib.hid (HB4.out.trans hbel5); have c5 : w5.cell? ⟨w.heap.size, 0, none⟩ = some (.int .i64 (s : Int)) ∧ w5.cell? ⟨w.heap.size, 1, none⟩ = some (.int .i64 (g : Int)) := ⟨HA5.out.1, HA5.out.2.1⟩))
  clear c5 hbel5 hown5 hg5 HO4 HO3' HO3 HA3 HA4 HB3 HB4 c3 c4 c hx0 hx1
  have c2 : w5.cell? ⟨w.heap.size, 2, none⟩ = some (.int .i64 (i : Int)) := HA5.out.2.2
  have HT5 := Lib.hid ((HB5.out.block (w.heap.size + 1) (Array.getElem?_eq_some_iff.1 HT2.out).1).trans HT2.out)
  have HW5 : Hid (Below w.heap.size w w5) := by
    have h0 : Below w.heap.size w w2.drew := ⟨HB2.out.os, HB2.out.tape, HB2.out.output, HB2.out.size, HB2.out.block⟩
    exact h0.trans (HB5.out.mono HB2.out.size)
  have hx2 : (i : Int) % 18446744073709551616 = (i : Int) := by have := HNS.out; omega
  have hle4 : (le 4 i).length = 4 := le_length 4 i
  have hm : mayB 1 (supB s g i) = true := (mayB_iff _ _).2 ⟨by decide, by rw [supB_length]; decide⟩
  have HMK : ∀ v w', Byt w' v (supB s g i) → Calls Try.prog 33 #[.int .u8 1, v] w' fun e w'' => e = .returned (.tuple #[secV (sealS 1 (supB s g i)), .bool true]) ∧ Below w'.heap.size w' w'' := fun v w' h => rmake_yes 1 v (supB s g i) w' h hm
  have hsl := sealS_length 1 (supB s g i) (by rw [supB_length]; decide)
  obtain ⟨m, hmd⟩ : ∃ m, m = sealS 1 (supB s g i) := ⟨_, rfl⟩
  rw [← hmd] at HMK hsl
  have HMS : Hid ((bvs m).toArray.size = 128) := by unfold Hid; rw [secV_size, hsl]
  have HMD := Lib.hid hmd
  have HLE := Lib.hid hle4
  have HMKH := Lib.hid HMK
  clear HL0 HL1 HMK hm hsl hmd hle4 HA5 HA2
  have HB5' : Hid (w2.heap.size ≤ w5.heap.size) := HB5.out.size
  unfold secV at HMKH
  go_upto_region 3 with (first
    | (go_at_call 46; refine (HL2 _).out.mono ?_; rintro e w6 ⟨v6, rfl, ho6, hb6⟩; have HO6 := Lib.hid (own_rd ho6); have HO5' := Lib.hid (own_below HO5.out hb6); have HT6 := Lib.hid (heap_keep HT5.out hb6); have HW6 := Lib.hid (bnext HW5.out hb6); have HS6 := Lib.hid (Nat.le_trans HB5'.out hb6.size); clear ho6 hb6; rw [HLE.out] at HO6)
    | (at_builtin; refine wpList_append_rd _ rfl (.tmp 16) (.tmp 20) 45 rfl w2.heap.size 5 (.int .u8 0) 1 1 Try.underlying45 infoU8 rfl (by decide) _ _ _ rfl HO5'.out _ 4 (bvs (le 4 i)) rfl HO6.out (bvs_oneCell _) ?c2 (by decide) HS6.out ?_; (case c2 => simp); intro v7 w7 hown7 hbel7 hg7; rw [← bvs_append, ← bvs_append, supB_two] at hown7; have HY7 := Lib.hid (own_byt hown7).1; have HT7 := Lib.hid ((hbel7.block (w.heap.size + 1) (Array.getElem?_eq_some_iff.1 HT2.out).1).trans HT6.out); have HW7 := Lib.hid (HW6.out.trans (hbel7.mono HB2.out.size)); clear hown7 hbel7 hg7)
    | (go_at_call 33; refine (HMKH.out _ w7 HY7.out).mono ?_; rintro e w8 ⟨rfl, hb8⟩; have HT8 := Lib.hid (heap_keep HT7.out hb8); have HW8 := Lib.hid (bnext HW7.out hb8); clear hb8)
    | (refine wpList_store_row rfl 46 (.tmp 4) (.tmp 23) rfl w8.heap.size zArr (bvs m).toArray 46 rfl rfl (heap_alloc_last _ _) (by rw [HMS.out]; exact size_arr) (by rw [HMS.out, zArr_size]) (sec_one _) ?_))
  rw [World.setRow_alloc_new]
  have hS9 := heap_alloc_last w8 (.cells (bvs m).toArray 46 (0, 0))
  have hb9 : Below w8.heap.size w8 (w8.alloc (.cells (bvs m).toArray 46 (0, 0))) := (Below.refl _ _).alloc (Nat.le_refl _) _
  have HT9 := Lib.hid (heap_keep HT8.out hb9)
  have HW9 := Lib.hid (bnext HW8.out hb9)
  have HS9 := Lib.hid hS9
  clear hS9 hb9
  go_wp2_with (first
    | (refine wpList_load_row rfl 46 (.tmp 4) rfl w8.heap.size rfl _ _ _ _ HS9.out Try.underlying46 rfl (by rw [HMS.out]; exact size_arr) ?_)
    | (refine wpList_store_row rfl 46 (.tmp 2) (.tmp 25) rfl (w.heap.size + 1) zArr (bvs m).toArray 46 rfl rfl HT9.out (by rw [HMS.out]; exact size_arr) (by rw [HMS.out, zArr_size]) (sec_one _) ?_))
  have hld := run_loadVar_row (P := Try.prog) ((w8.alloc (.cells (bvs m).toArray 46 (0, 0))).setRow (w.heap.size + 1) (bvs m).toArray) (w.heap.size + 1) 46 46 (bvs m).toArray (0, 0) _ (setRow_heap _ _ _ _ _ _ HT9.out) Try.underlying46 (by simp) (by rw [HMS.out]; exact size_arr)
  refine bodyPost_ret (v := secV m) (results_cell1 Try.results31 rfl hld) rfl ⟨by rw [HMD.out], ?_⟩
  exact HW9.out.trans ⟨rfl, rfl, rfl, by rw [setRow_size]; exact Nat.le_refl _, fun k hk => setRow_other _ _ _ _ (by omega)⟩
end Go.Proofs.Yteepgdfjbpfakaa
