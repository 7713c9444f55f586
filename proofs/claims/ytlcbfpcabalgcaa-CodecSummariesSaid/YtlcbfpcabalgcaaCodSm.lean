/-
  Codec: write and read of one kind.
-/
import Derived.Test.YtlcbfpcabalgcaaCodSs
import Derived.Test.YtlcbfpcabalgcaaSeal
import Derived.Test.YtlcbfpcabalgcaaSealO
import Derived.Test.YtlcbfpcabalgcaaReg
import Derived.Test.YtlcbfpcabalgcaaRegF
namespace Go.Proofs.Ytlcbfpcabalgcaa
open Go.RowKit
set_option linter.unusedVariables false
set_option linter.unusedSimpArgs false
set_option linter.unnecessarySimpa false
theorem infoSummary : (Try.prog.info? 105).map (·.size) = some 6 := by kernel_rfl
set_option maxRecDepth 10000 in
set_option maxHeartbeats 8000000 in
theorem wr_summary (kind : UInt8) (C : Array Value) (mayb : Bool) (L : List UInt8) (bad : Bool) (w : World) (hC : C.size = 6)
    (hm : ∀ w', Below w.heap.size w w' → Calls Try.prog 80 #[.agg C] w' fun e w'' => e = .returned (.bool mayb) ∧ Below w'.heap.size w' w'')
    (hp : ∀ w' base g pb, Below w.heap.size w w' → CwAt w' base g [] false → w'.heap[pb]? = some (.cells C 105 (0, 0)) → base ≤ w'.heap.size → pb < base → w.heap.size ≤ base → Calls Try.prog 79 #[wV g, .pointer (some ⟨pb, 0, none⟩)] w' (CwTo w' base g L bad)) :
    Calls Try.prog 78 #[.int .u8 (kind.toNat : Int), .agg C, .func (.func 79) #[] #[], .func (.func 80) #[] #[]] w (WrS w kind (mayb && !bad) L) := by
  have HC := Lib.hid hC
  have HM := Lib.hid hm
  have HP := Lib.hid hp
  clear hC hm hp
  go_enter Try.func78, Try.ntmps78
  go_upto_region 2 with fail
  have hA := a3 w (.cells C 105 (0, 0)) (.cells Try.zeroCells29 29 (0, 0)) (.cells #[.slice none 0 0, .bool false] 167 (0, 0))
  revert hA
  generalize ((w.alloc (.cells C 105 (0, 0))).alloc (.cells Try.zeroCells29 29 (0, 0))).alloc (.cells #[.slice none 0 0, .bool false] 167 (0, 0)) = w2
  intro hA
  have HA := Lib.hid hA
  clear hA
  cases mayb with
  | false =>
    go_wp2_with (first
      | (refine wpList_load_row rfl 105 (.tmp 5) rfl w.heap.size rfl _ _ _ _ HA.out.h0 Try.underlying105 rfl (by rw [HC.out]; exact infoSummary) ?_)
      | (go_at_call 80; refine (HM.out w2 HA.out.bel).mono ?_; rintro e w3 ⟨rfl, hb3⟩; have HT := Lib.hid (old_heap HA.out.h1 hb3); have HB := Lib.hid (bnext HA.out.bel hb3); clear hb3)
      | (refine wpList_store_row rfl 29 (.tmp 8) (.tmp 17) rfl (w.heap.size + 1) zArr zArr 29 rfl rfl HT.out (by rw [zArr_size]; exact size_sec) rfl zArr_one ?_))
    have hld := run_loadVar_row (P := Try.prog) (w3.setRow (w.heap.size + 1) zArr) (w.heap.size + 1) 29 29 zArr (0, 0) _ (setRow_heap _ _ _ _ _ _ HT.out) Try.underlying29 (by simp) (by rw [zArr_size]; exact size_sec)
    exact bodyPost_ret (v := .tuple #[secV (List.replicate 128 0), .int .i64 1]) (results_cell2 Try.results78 rfl rfl hld) rfl (wrS_no rfl rfl (below_row HB.out (by omega)))
  | true =>
    go_upto_region 4 with (first
      | (refine wpList_load_row rfl 105 (.tmp 5) rfl w.heap.size rfl _ _ _ _ HA.out.h0 Try.underlying105 rfl (by rw [HC.out]; exact infoSummary) ?_)
      | (go_at_call 80; refine (HM.out w2 HA.out.bel).mono ?_; rintro e w3 ⟨rfl, hb3⟩; have HB := Lib.hid (bnext HA.out.bel hb3); have HX := Lib.hid (old_heap HA.out.h0 hb3); have HT := Lib.hid (old_heap HA.out.h1 hb3); have HG := Lib.hid (old_heap HA.out.h2 hb3); clear hb3))
    have hgl := (Array.getElem?_eq_some_iff.1 HG.out).1
    have hcw : CwAt w3 (w.heap.size + 1 + 1) (w.heap.size + 1 + 1) [] false := ⟨.slice none 0 0, HG.out, own_none _ _ _, Nat.le_refl _, fun k hk => by cases hk⟩
    have hpp := HP.out w3 (w.heap.size + 1 + 1) (w.heap.size + 1 + 1) w.heap.size HB.out hcw HX.out (by omega) (by omega) (by omega)
    unfold CwTo wV at hpp
    have HPP := Lib.hid hpp
    clear hpp hcw hgl
    go_upto_region 5 with (go_at_call 79; refine HPP.out.mono ?_; rintro e w4 ⟨rfl, hcw, hb4⟩; have HB4 := Lib.hid (HB.out.trans (hb4.mono (by omega))); have HT4 := Lib.hid ((hb4.block (w.heap.size + 1) (by omega)).trans HT.out); have HCW := Lib.hid hcw; clear hcw hb4)
    obtain ⟨v4, hg4, ho4, -, -⟩ := HCW.out
    obtain ⟨sp4, cp4, rfl⟩ := own_slice1 ho4
    have HMK := Lib.hid (make_any kind _ L w4 (own_byt ho4).1)
    have c0 : w4.cell? ⟨w.heap.size + 1 + 1, 0, none⟩ = some (.slice sp4 L.length cp4) := cell_row hg4 0
    have c1 : w4.cell? ⟨w.heap.size + 1 + 1, 1, none⟩ = some (.bool bad) := cell_row hg4 1
    have hms : (bvs (makeS kind L)).toArray.size = 128 := by rw [secV_size, makeS_length]
    have HMS := Lib.hid hms
    clear hg4 ho4 HPP HCW HX HG HM HP hms
    cases bad with
    | true =>
      go_wp2_with (refine wpList_store_row rfl 29 (.tmp 8) (.tmp 26) rfl (w.heap.size + 1) zArr zArr 29 rfl rfl HT4.out (by rw [zArr_size]; exact size_sec) rfl zArr_one ?_)
      have hld := run_loadVar_row (P := Try.prog) (w4.setRow (w.heap.size + 1) zArr) (w.heap.size + 1) 29 29 zArr (0, 0) _ (setRow_heap _ _ _ _ _ _ HT4.out) Try.underlying29 (by simp) (by rw [zArr_size]; exact size_sec)
      exact bodyPost_ret (v := .tuple #[secV (List.replicate 128 0), .int .i64 1]) (results_cell2 Try.results78 rfl rfl hld) rfl (wrS_no rfl rfl (below_row HB4.out (by omega)))
    | false =>
      obtain ⟨S, hS⟩ : ∃ S, makeS kind L = S := ⟨_, rfl⟩
      obtain ⟨N, hN⟩ : ∃ N, makeE kind L = N := ⟨_, rfl⟩
      rw [hS, hN] at HMK
      rw [hS] at HMS
      have HS := Lib.hid hS
      have HN := Lib.hid hN
      clear hS hN
      unfold secV at HMK
      go_wp2_with (first
        | (go_at_call 82; refine HMK.out.mono ?_; rintro e w5 ⟨rfl, hb5⟩; have HT5 := Lib.hid (old_heap HT4.out hb5); have HB5 := Lib.hid (bnext HB4.out hb5); clear hb5)
        | (refine wpList_store_row rfl 29 (.tmp 8) (.tmp 33) rfl (w.heap.size + 1) zArr (bvs S).toArray 29 rfl rfl HT5.out (by rw [HMS.out]; exact size_sec) (by rw [HMS.out, zArr_size]) (sec_one _) ?_))
      have hld := run_loadVar_row (P := Try.prog) (w5.setRow (w.heap.size + 1) (bvs S).toArray) (w.heap.size + 1) 29 29 (bvs S).toArray (0, 0) _ (setRow_heap _ _ _ _ _ _ HT5.out) Try.underlying29 (by simp) (by rw [HMS.out]; exact size_sec)
      exact bodyPost_ret (v := .tuple #[secV S, .int .i64 N]) (results_cell2 Try.results78 rfl rfl hld) rfl (wrS_yes rfl (by rw [HS.out, HN.out]) (below_row HB5.out (by omega)))
set_option maxRecDepth 10000 in
set_option maxHeartbeats 4000000 in
theorem entrysEach_any (f : Value) (hf1 : f.oneCell' = true) (w : World) : Calls Try.prog 102 #[.int .i64 8, f] w fun e w' => e = .returned (.func (.func 111) #[] #[.pointer (some ⟨w.heap.size + 1, 0, none⟩), .pointer (some ⟨w.heap.size, 0, none⟩)]) ∧ w' = (w.alloc (.cells #[.int .i64 8] 3 (0, 0))).alloc (.cells #[f] 213 (0, 0)) := by
  have hmf : ∀ (fn : Fn) (first cap : Array Value) (w : World), (Instr.makeFunc fn first cap).run Try.prog w = .ok (.func fn first cap) w := fun _ _ _ _ => rfl
  go_enter Try.func102, Try.ntmps102
  go_wp2
  go_ret
  exact ⟨rfl, rfl⟩
set_option maxRecDepth 10000 in
set_option maxHeartbeats 4000000 in
theorem summaryMay_any (x : Smy) (A : Option Addr) (c : Nat) (w : World) (hR : ReadAt w A Ent5.cells 4 x.ents) (hL : x.ents.length ≤ 140737488355328) :
    Calls Try.prog 80 #[.agg (sumF x.seq x.first x.commit x.next x.time (.slice A x.ents.length c))] w fun e w' => e = .returned (.bool (entrysMay x.ents)) ∧ Below w.heap.size w w' := by
  obtain ⟨C, hC⟩ : ∃ C, sumF x.seq x.first x.commit x.next x.time (.slice A x.ents.length c) = C := ⟨_, rfl⟩
  have hx5 : C[5]? = some (.slice A x.ents.length c) := by rw [← hC]; rfl
  rw [hC]
  generalize x.ents = L at hR hL hx5 ⊢
  clear hC
  have hba : Below w.heap.size w (w.alloc (.cells C 105 (0, 0))) := (Below.refl _ _).alloc (Nat.le_refl _) _
  have h5 := (cell_row (heap_alloc_last w (.cells C 105 (0, 0))) 5).trans hx5
  have hR1 := hR.below Ent5.cells_len hba
  have HBA := Lib.hid hba
  have HR1 := Lib.hid hR1
  clear hba hR1 hx5
  go_enter Try.func80, Try.ntmps80
  go_upto_region 1 with fail
  revert h5 HBA HR1
  generalize w.alloc (.cells C 105 (0, 0)) = w1
  intro h5 HBA HR1
  have HS5 : Hid ((w1.drew).cell? ⟨w.heap.size, 5, none⟩ = some (.slice A L.length c)) := Lib.hid h5
  have HB1 := Lib.hid (HBA.out.drew)
  have HR2 : Hid (ReadAt w1.drew A Ent5.cells 4 L) := Lib.hid HR1.out
  have hlt := World.block_lt_of_cell? w1 _ h5
  dsimp only at hlt
  have HLT := Lib.hid hlt
  revert HS5 HB1 HR2
  generalize hw1 : w1.drew = w1d
  intro HS5 HB1 HR2
  have hb2 : Below w1d.heap.size w1d ((w1d.alloc (.cells #[.int .i64 8] 3 (0, 0))).alloc (.cells #[.func (.func 103) #[] #[]] 213 (0, 0))) := ((Below.refl _ _).alloc (Nat.le_refl _) _).alloc (by simp) _
  have hG2 := old_heap (heap_alloc_last w1d (.cells #[.int .i64 8] 3 (0, 0))) ((Below.refl _ _).alloc (Nat.le_refl _) (.cells #[.func (.func 103) #[] #[]] 213 (0, 0)))
  have hT2 := heap_alloc_last (w1d.alloc (.cells #[.int .i64 8] 3 (0, 0))) (.cells #[.func (.func 103) #[] #[]] 213 (0, 0))
  rw [show (w1d.alloc (.cells #[.int .i64 8] 3 (0, 0))).heap.size = w1d.heap.size + 1 by simp] at hT2
  have HE := Lib.hid (entrysEach_any (.func (.func 103) #[] #[]) rfl w1d)
  have hltd : w.heap.size < w1d.heap.size := by rw [← hw1]; exact hlt
  have HM := Lib.hid (entryEach_any L A c (w1d.heap.size + 1) w1d.heap.size _ (cell_row hT2 0) (cell_row hG2 0) (HR2.out.below Ent5.cells_len hb2) hL)
  have HB := Lib.hid (bnext HB1.out hb2)
  have HC2 := Lib.hid ((hb2.cell (p := ⟨w.heap.size, 5, none⟩) hltd).trans HS5.out)
  clear hb2 hG2 hT2
  revert HE HM HB HC2
  generalize hw2 : (w1d.alloc (.cells #[.int .i64 8] 3 (0, 0))).alloc (.cells #[.func (.func 103) #[] #[]] 213 (0, 0)) = w2
  intro HE HM HB HC2
  have HW := Lib.hid hw2
  have HW1 := Lib.hid hw1
  clear hw2 hw1 hlt hltd hR
  refine wp_region_held_drew (S := (fun w' => w'.cell? ⟨w.heap.size, 5, none⟩ = some (.slice A L.length c))) (by kernel_rfl) (by exact h5) (fun hHeld => ?_)
  refine take1_ (i := 1) (v := ?_) (a' := ?_) (some 4) #[false, true, false, false, false] rfl rfl (by kernel_rfl) (fun _ _ _ h => h) (Or.inl ⟨by rfl, ?_⟩) hHeld ?_ ?_
  rotate_left
  · (intro w hSw; (try dsimp only at hSw); go_simp; (try with_reducible rfl))
  rotate_left
  · simp only [Act.put, List.setIfInBounds_toArray, List.set_cons_zero, List.set_cons_succ]
    rfl
  refine take1_ (i := 2) (v := ?_) (a' := ?_) (some 5) #[false, true, true, false, false] rfl rfl (by kernel_rfl) (fun _ _ _ h => h) (Or.inl ⟨by rfl, ?_⟩) hHeld ?_ ?_
  rotate_left
  · (intro w hSw; (try dsimp only at hSw); go_simp; (try with_reducible rfl))
  rotate_left
  · simp only [Act.put, List.setIfInBounds_toArray, List.set_cons_zero, List.set_cons_succ]
    rfl
  refine loud1_ (i := 0) (some 3) #[true, true, true, false, false] rfl rfl (by kernel_rfl) (fun K hK => ?_)
  go_simp
  (rw [HW1.out]; go_at_call 102; go_must (refine HE.out.mono ?_; rintro e w3 ⟨rfl, rfl⟩; have hnx := HC2.out))
  refine hK.out _ _ (by exact hnx) (fun hHeld' => ?_)
  clear hK K hHeld
  have hHeld := hHeld'
  clear hHeld'
  try simp only [Act.put, List.setIfInBounds_toArray, List.set_cons_zero, List.set_cons_succ]
  refine loud1_ (i := 3) (some 6) #[true, true, true, true, false] rfl rfl (by kernel_rfl) (fun K hK => ?_)
  go_simp
  (go_at_call 111; go_must (refine HM.out.mono ?_; rintro e w4 ⟨rfl, hb4⟩; have HB4 := Lib.hid (bnext HB.out hb4); have hnx := (hb4.cell (p := ⟨w.heap.size, 5, none⟩) (World.block_lt_of_cell? _ _ HC2.out)).trans HC2.out; clear hb4))
  refine hK.out _ _ (by exact hnx) (fun hHeld' => ?_)
  clear hK K hHeld
  have hHeld := hHeld'
  clear hHeld'
  try simp only [Act.put, List.setIfInBounds_toArray, List.set_cons_zero, List.set_cons_succ]
  refine take1_ (i := 4) (v := ?_) (a' := ?_) (some 2) #[true, true, true, true, true] rfl rfl (by kernel_rfl) (fun _ _ _ h => h) (Or.inl ⟨by rfl, ?_⟩) hHeld ?_ ?_
  rotate_left
  · (intro w hSw; (try dsimp only at hSw); go_simp; (try with_reducible rfl))
  rotate_left
  · simp only [Act.put, List.setIfInBounds_toArray, List.set_cons_zero, List.set_cons_succ]
    rfl
  refine wpAnyH_done (by kernel_rfl) ?_ _
  clear hHeld hnx
  go_wp2
  go_ret
  exact ⟨rfl, HB4.out⟩
theorem own_setRow {w : World} {base base' e size n b : Nat} {v : Value} {xs : List Value} {cs : Array Value} (h : w.ownsRow base e size v n xs) (hl : base' ≤ base) (hb : b < base) : (w.setRow b cs).ownsRow base' e size v n xs := by
  refine own_move (own_low h hl) (fun k hk => ?_)
  have h1 := (h.lt k hk).1
  exact setRow_other _ _ _ _ (by omega)
/-- What writing comes to. -/
def sumWr (x : Smy) : Bool := entrysMay x.ents && !fBad (sumL x)
theorem wrs_summary (x : Smy) (hx : x.Ok) (A : Option Addr) (c : Nat) (w : World) (hR : ReadAt w A Ent5.cells 4 x.ents) (hA : ∀ a, A = some a → a.block < w.heap.size) :
    Calls Try.prog 78 #[.int .u8 3, .agg (sumF x.seq x.first x.commit x.next x.time (.slice A x.ents.length c)), .func (.func 79) #[] #[], .func (.func 80) #[] #[]] w (WrS w 3 (sumWr x) (fB (sumL x))) :=
  wr_summary 3 _ (entrysMay x.ents) (fB (sumL x)) (fBad (sumL x)) w rfl (fun w' hb => summaryMay_any x A c w' (hR.below Ent5.cells_len hb) (by have := hx.len; omega))
    (fun w' base g pb hb hcw hpb hbs hpl hwb => by
      have := pw_summary x hx A c pb hcw hpb (hR.below Ent5.cells_len hb) (fun a ha => Nat.lt_of_lt_of_le (hA a ha) hwb) (by simp) hbs hpl
      simpa using this)
def sumN (b : List UInt8) : Nat := (b.length - 24) / 9
def sumRdOk (l : List UInt8) : Bool := (openB l && decide (openK l = 3)) && (decide (24 ≤ (openL l).length ∧ ((openL l).length - 24) % 9 = 0) && entrysMay (entrys (openL l) 24 (sumN (openL l))))
def sumNone : Smy := ⟨0, 0, false, 0, 0, []⟩
def sumRdX (l : List UInt8) : Smy := if sumRdOk l then rsum (openL l) (sumN (openL l)) else sumNone
def Smy.cells (x : Smy) (v : Value) : Array Value := sumF x.seq x.first x.commit x.next x.time v
/-- What reading comes to. -/
def RlSum (w : World) (ok : Bool) (x : Smy) (e : Ending) (w' : World) : Prop :=
  ∃ v', e = .returned (.tuple #[.agg (x.cells v'), .int .i64 (if ok then 0 else 21)]) ∧ w'.ownsRow w.heap.size 163 4 v' x.ents.length (rowsOf Ent5.cells x.ents) ∧ Below w.heap.size w w'
theorem rlSum_no {w w' : World} {l : List UInt8} {e : Ending} (h : sumRdOk l = false) (he : e = .returned (.tuple #[.agg (sumF 0 0 false 0 0 (.slice none 0 0)), .int .i64 21])) (hb : Below w.heap.size w w') : RlSum w (sumRdOk l) (sumRdX l) e w' := by
  unfold RlSum sumRdX
  rw [h]
  exact ⟨_, he, own_nilk _ _ _ _, hb⟩
theorem rlSum_yes {w w' : World} {l b : List UInt8} {e : Ending} {v' : Value} {J : Nat} (h : sumRdOk l = true) (hb : openL l = b) (hJ : sumN b = J) (he : e = .returned (.tuple #[.agg (sumF (rN b 0 8) (rN b 8 8) (decide (rN b 16 1 = 1)) (rN b 18 2 : Int) (rN b 20 4) v'), .int .i64 0])) (ho : w'.ownsRow w.heap.size 163 4 v' J (rowsOf Ent5.cells (entrys b 24 J))) (hbl : Below w.heap.size w w') : RlSum w (sumRdOk l) (sumRdX l) e w' := by
  unfold RlSum sumRdX
  rw [h, if_pos rfl, if_pos rfl, hb, hJ]
  exact ⟨v', he, by show World.ownsRow _ _ _ _ _ (entrys b 24 J).length _; rw [entrys_len]; exact ho, hbl⟩
set_option maxRecDepth 10000 in
set_option maxHeartbeats 8000000 in
theorem rds_summary (l : List UInt8) (w : World) (hl : l.length = 128) :
    Calls Try.prog 81 #[.int .u8 3, secV l, .func (.func 79) #[] #[], .func (.func 80) #[] #[]] w (RlSum w (sumRdOk l) (sumRdX l)) := by
  obtain ⟨Z, hZ⟩ : ∃ Z, (sumF 0 0 false 0 0 (.slice none 0 0)) = Z := ⟨_, rfl⟩
  have HZS : Hid (Z.size = 6) := by rw [← hZ]; exact rfl
  have HZ1 : Hid (Z.all (·.oneCell') = true) := by unfold Hid; rw [← hZ]; kernel_rfl
  have HQL : Hid (#[.int .u64 0, .int .u64 0, .bool false, .int .i64 0, .int .u32 0, .slice none 0 0] = Z) := Lib.hid hZ
  have HZE := Lib.hid hZ
  clear hZ
  have HSZ : Hid ((bvs l).toArray.size = 128) := by unfold Hid; rw [secV_size, hl]
  have HBL := Lib.hid (openL_le l)
  have hop := fun w' => open_any l w' hl
  obtain ⟨k, hk⟩ : ∃ k, openK l = k := ⟨_, rfl⟩
  obtain ⟨b, hb⟩ : ∃ b, openL l = b := ⟨_, rfl⟩
  obtain ⟨oe, hoe⟩ : ∃ oe, openE l = oe := ⟨_, rfl⟩
  rw [hk, hb, hoe] at hop
  rw [hb] at HBL
  have hokd : sumRdOk l = ((openB l && decide (k = 3)) && (decide (24 ≤ b.length ∧ (b.length - 24) % 9 = 0) && entrysMay (entrys b 24 (sumN b)))) := by unfold sumRdOk; rw [hk, hb]
  have HOKD := Lib.hid hokd
  have HBE := Lib.hid hb
  have HOP := fun w' => Lib.hid (hop w')
  have HOE := Lib.hid hoe
  clear hop hk hb hoe hl hokd
  unfold secV at HOP ⊢
  unfold OpTo at HOP
  go_enter Try.func81, Try.ntmps81
  go_upto_region 2 with fail
  have hA := a4 w (.cells (bvs l).toArray 29 (0, 0)) (.cells #[.int .u64 0, .int .u64 0, .bool false, .int .i64 0, .int .u32 0, .slice none 0 0] 105 (0, 0)) (.cells #[.int .u64 0, .int .u64 0, .bool false, .int .i64 0, .int .u32 0, .slice none 0 0] 105 (0, 0)) (.cells #[.int .u64 0, .int .u64 0, .bool false, .int .i64 0, .int .u32 0, .slice none 0 0] 105 (0, 0))
  revert hA
  generalize (((w.alloc (.cells (bvs l).toArray 29 (0, 0))).alloc (.cells #[.int .u64 0, .int .u64 0, .bool false, .int .i64 0, .int .u32 0, .slice none 0 0] 105 (0, 0))).alloc (.cells #[.int .u64 0, .int .u64 0, .bool false, .int .i64 0, .int .u32 0, .slice none 0 0] 105 (0, 0))).alloc (.cells #[.int .u64 0, .int .u64 0, .bool false, .int .i64 0, .int .u32 0, .slice none 0 0] 105 (0, 0)) = w2
  intro hA
  rw [HQL.out] at hA
  have HA := Lib.hid hA
  clear hA
  go_upto_region 3 with (first
    | (refine wpList_load_row rfl 29 (.tmp 5) rfl w.heap.size rfl _ _ _ _ HA.out.h0 Try.underlying29 rfl (by rw [HSZ.out]; exact size_sec) ?_)
    | (go_at_call 84; refine (HOP _).out.mono ?_; rintro e w3 ⟨v, rfl, ho3, hb3⟩; obtain ⟨sp, cp, rfl⟩ := own_slice1 ho3; have HO3 := Lib.hid ho3; have HB3 := Lib.hid (bnext HA.out.bel hb3); have HR := Lib.hid (old_heap HA.out.h1 hb3); have HX := Lib.hid (old_heap HA.out.h2 hb3); have HN := Lib.hid (old_heap HA.out.h3 hb3); have hs3 := hb3.size; clear ho3 hb3))
  have hs2 := HA.out.size
  have hz3 : w.heap.size + 1 + 1 + 1 + 1 ≤ w3.heap.size := by omega
  have HZ2 := Lib.hid (show w.heap.size + 1 + 1 < w2.heap.size by omega)
  clear hs2 hs3 HA
  have HZ3 := Lib.hid hz3
  clear hz3
  cases ho : openB l with
  | false =>
    obtain rfl : oe = 21 := by rw [← HOE.out]; unfold openE; rw [ho]; rfl
    have hno : sumRdOk l = false := by rw [HOKD.out, ho]; rfl
    have HNO := Lib.hid hno
    clear hno
    go_wp2_with (first
      | (refine wpList_load_row rfl 105 (.tmp 11) rfl (w.heap.size + 1 + 1 + 1) rfl _ _ _ _ HN.out Try.underlying105 rfl (by rw [HZS.out]; exact infoSummary) ?_)
      | (refine wpList_store_row rfl 105 (.tmp 8) (.tmp 29) rfl (w.heap.size + 1) Z Z 105 rfl rfl HR.out (by rw [HZS.out]; exact infoSummary) rfl HZ1.out ?_))
    have hld := run_loadVar_row (P := Try.prog) (w3.setRow (w.heap.size + 1) Z) (w.heap.size + 1) 105 105 Z (0, 0) _ (setRow_heap _ _ _ _ _ _ HR.out) Try.underlying105 (by simp) (by rw [HZS.out]; exact infoSummary)
    exact bodyPost_ret (v := .tuple #[.agg Z, .int .i64 21]) (results_cell2 Try.results81 rfl rfl hld) rfl (rlSum_no HNO.out (by rw [HZE.out]) (below_row HB3.out (by omega)))
  | true =>
    obtain rfl : oe = 0 := by rw [← HOE.out]; unfold openE; rw [ho]; rfl
    by_cases hk : k = 3
    · subst hk
      have hkk := kind_eq 3
      go_upto_region 6 with fail
      have hg4 := heap_alloc_last w3 (.cells #[.slice sp b.length cp, .int .i64 0, .bool false] 181 (0, 0))
      have hb4 : Below w3.heap.size w3 (w3.alloc (.cells #[.slice sp b.length cp, .int .i64 0, .bool false] 181 (0, 0))) := (Below.refl _ _).alloc (Nat.le_refl _) _
      revert hg4 hb4
      generalize w3.alloc (.cells #[.slice sp b.length cp, .int .i64 0, .bool false] 181 (0, 0)) = w4
      intro hg4 hb4
      have hbt4 := (own_byt HO3.out).1.below hb4
      have hcr : CrAt w4 w3.heap.size (.slice sp b.length cp) b 0 false := ⟨hg4, hbt4, byt_apart (own_byt HO3.out).1⟩
      have hap : Apart (· = w.heap.size + 1 + 1) (.slice sp b.length cp) b := own_apart HO3.out (by have := HZ2.out; omega)
      have HPP := Lib.hid (pr_summary (w.heap.size + 1 + 1) hcr HBL.out (by rw [HZE.out]; exact old_heap HX.out hb4) (by have := HZ3.out; omega) hap)
      unfold rV at HPP
      have HB4 := Lib.hid (bnext HB3.out hb4)
      have HR4 := Lib.hid (old_heap HR.out hb4)
      have HN4 := Lib.hid (old_heap HN.out hb4)
      have HS4 := Lib.hid hb4.size
      have hne : w3.heap.size ≠ w.heap.size + 1 ∧ w3.heap.size ≠ w.heap.size + 1 + 1 + 1 := by have := HZ3.out; omega
      have HNE := Lib.hid hne
      clear hg4 hb4 hbt4 hcr hap HR HN HX hne
      go_upto_region 7 with (go_at_call 79; go_must (refine HPP.out.mono ?_; rintro e w5 ⟨v', J, rfl, hlr, hJ1, hJ2⟩; have HLR := Lib.hid hlr; have HJ1 := Lib.hid hJ1; have HJ2 := Lib.hid hJ2; clear hlr hJ1 hJ2))
      have hown := HLR.out.own
      obtain ⟨s', c', rfl⟩ := own_slice1 hown
      have c0 : w5.cell? ⟨w3.heap.size, 0, none⟩ = some (.slice sp b.length cp) := cell_row HLR.out.form.box 0
      have c1 : w5.cell? ⟨w3.heap.size, 1, none⟩ = some (.int .i64 ((24 + J * 9 : Nat) : Int)) := cell_row HLR.out.form.box 1
      have c2 : w5.cell? ⟨w3.heap.size, 2, none⟩ = some (.bool (decide (b.length < 24 + J * 9))) := cell_row HLR.out.form.box 2
      have HR5 := Lib.hid (HLR.out.keep.heap HR4.out (by have := HNE.out; omega))
      have HN5 := Lib.hid (HLR.out.keep.heap HN4.out (by have := HNE.out; omega))
      have HB5 := Lib.hid (keep_below2 HB4.out HLR.out.keep (Nat.le_refl _) (by have := HZ3.out; omega) (by omega))
      obtain ⟨V, hV⟩ : ∃ V, sumF (rN b 0 8) (rN b 8 8) (decide (rN b 16 1 = 1)) (rN b 18 2 : Int) (rN b 20 4) (.slice s' J c') = V := ⟨_, rfl⟩
      have hX5 := HLR.out.cell
      rw [hV] at hX5
      have HX5 := Lib.hid hX5
      have HVE := Lib.hid hV
      have HV : Hid (V.size = 6) := by rw [← hV]; exact rfl
      have HV1 : Hid (V.all (·.oneCell') = true) := by unfold Hid; rw [← hV]; simp [sumF, Value.oneCell']
      clear HPP HR4 HN4 HB4 HO3 hX5 hV
      obtain ⟨m, hm⟩ : ∃ m, 24 + J * 9 = m := ⟨_, rfl⟩
      rw [hm] at c1 c2
      have HMM := Lib.hid hm
      by_cases hat : m = b.length
      · have hbd : decide (b.length < m) = false := by rw [decide_eq_false_iff_not]; omega
        rw [hbd] at c2
        have hatI : ((m : Int) != (b.length : Int)) = false := by simp [hat]
        have hdiv : sumN b = J := by unfold sumN; omega
        have hmod : decide (24 ≤ b.length ∧ (b.length - 24) % 9 = 0) = true := decide_eq_true ⟨by omega, by omega⟩
        have hokd : sumRdOk l = entrysMay (entrys b 24 J) := by rw [HOKD.out, ho, hmod, hdiv]; simp
        have hrl : ReadAt w5 s' Ent5.cells 4 (entrys b 24 J) := by
          obtain ⟨A9, c9, e9, -, -, -, h9, -⟩ := own_rows (F := fun _ => False) Ent5.cells_len hown (entrys_len b 24 J).symm (fun _ _ => id)
          injection e9 with e9
          subst e9
          exact h9
        have hmy := summaryMay_any (rsum b J) s' c' w5 hrl (by show (entrys b 24 J).length ≤ _; rw [entrys_len]; have := HBL.out; omega)
        rw [show (rsum b J).ents = entrys b 24 J from rfl, entrys_len, show sumF (rsum b J).seq (rsum b J).first (rsum b J).commit (rsum b J).next (rsum b J).time (.slice s' J c') = V from HVE.out] at hmy
        have HOK2 := Lib.hid hokd
        have HDIV := Lib.hid hdiv
        obtain ⟨q, hq⟩ : ∃ q, entrysMay (entrys b 24 J) = q := ⟨_, rfl⟩
        rw [hq] at hmy HOK2
        have HMY := Lib.hid hmy
        have HOWN := Lib.hid hown
        clear hown hm hat hbd hdiv hmod hokd hrl hmy hq
        cases q with
        | true =>
          go_wp2_with (first
            | (refine wpList_load_row_g (by rfl) 105 (.tmp 10) rfl (w.heap.size + 1 + 1) rfl _ _ _ _ HX5.out Try.underlying105 rfl (by rw [HV.out]; exact infoSummary) ?_)
            | (go_at_call 80; go_must (refine HMY.out.mono ?_; rintro e w6 ⟨rfl, hb6⟩; have HR6 := Lib.hid (old_heap HR5.out hb6); have HX6 := Lib.hid (old_heap HX5.out hb6); have HO6 := Lib.hid (own_below HOWN.out hb6); have HB6 := Lib.hid (bnext HB5.out hb6); clear hb6))
            | (refine wpList_load_row rfl 105 (.tmp 10) rfl (w.heap.size + 1 + 1) rfl _ _ _ _ HX6.out Try.underlying105 rfl (by rw [HV.out]; exact infoSummary) ?_)
            | (refine wpList_store_row rfl 105 (.tmp 8) (.tmp 57) rfl (w.heap.size + 1) Z V 105 rfl rfl HR6.out (by rw [HV.out]; exact infoSummary) (by rw [HV.out, HZS.out]) HV1.out ?_))
          have hld := run_loadVar_row (P := Try.prog) (w6.setRow (w.heap.size + 1) V) (w.heap.size + 1) 105 105 V (0, 0) _ (setRow_heap _ _ _ _ _ _ HR6.out) Try.underlying105 (by simp) (by rw [HV.out]; exact infoSummary)
          exact bodyPost_ret (v := .tuple #[.agg V, .int .i64 0]) (results_cell2 Try.results81 rfl rfl hld) rfl (rlSum_yes HOK2.out HBE.out HDIV.out (by rw [HVE.out]) (own_setRow HO6.out (by have := HZ3.out; have := HS4.out; omega) (by have := HZ3.out; have := HS4.out; omega)) (below_row HB6.out (by omega)))
        | false =>
          have HNO := HOK2
          go_wp2_with (first
            | (refine wpList_load_row_g (by rfl) 105 (.tmp 10) rfl (w.heap.size + 1 + 1) rfl _ _ _ _ HX5.out Try.underlying105 rfl (by rw [HV.out]; exact infoSummary) ?_)
            | (go_at_call 80; go_must (refine HMY.out.mono ?_; rintro e w6 ⟨rfl, hb6⟩; have HR6 := Lib.hid (old_heap HR5.out hb6); have HN6 := Lib.hid (old_heap HN5.out hb6); have HB6 := Lib.hid (bnext HB5.out hb6); clear hb6))
            | (refine wpList_load_row rfl 105 (.tmp 11) rfl (w.heap.size + 1 + 1 + 1) rfl _ _ _ _ HN6.out Try.underlying105 rfl (by rw [HZS.out]; exact infoSummary) ?_)
            | (refine wpList_store_row rfl 105 (.tmp 8) (.tmp 56) rfl (w.heap.size + 1) Z Z 105 rfl rfl HR6.out (by rw [HZS.out]; exact infoSummary) rfl HZ1.out ?_))
          have hld := run_loadVar_row (P := Try.prog) (w6.setRow (w.heap.size + 1) Z) (w.heap.size + 1) 105 105 Z (0, 0) _ (setRow_heap _ _ _ _ _ _ HR6.out) Try.underlying105 (by simp) (by rw [HZS.out]; exact infoSummary)
          exact bodyPost_ret (v := .tuple #[.agg Z, .int .i64 21]) (results_cell2 Try.results81 rfl rfl hld) rfl (rlSum_no HNO.out (by rw [HZE.out]) (below_row HB6.out (by omega)))
      · have hlt : b.length < m := by
          rcases Nat.lt_or_ge b.length m with h | h
          · exact h
          · have := HJ1.out; omega
        rw [decide_eq_true hlt] at c2
        have hno : sumRdOk l = false := by
          have h1 : ¬ (24 ≤ b.length ∧ (b.length - 24) % 9 = 0) := fun ⟨h1, h2⟩ => by
            rcases HJ2.out with h | h
            · subst h; omega
            · omega
          rw [HOKD.out, decide_eq_false h1]; simp
        have HNO := Lib.hid hno
        clear hown hm hat hlt hno
        go_wp2_with (first
          | (refine wpList_load_row rfl 105 (.tmp 11) rfl (w.heap.size + 1 + 1 + 1) rfl _ _ _ _ HN5.out Try.underlying105 rfl (by rw [HZS.out]; exact infoSummary) ?_)
          | (refine wpList_store_row rfl 105 (.tmp 8) (.tmp 56) rfl (w.heap.size + 1) Z Z 105 rfl rfl HR5.out (by rw [HZS.out]; exact infoSummary) rfl HZ1.out ?_))
        have hld := run_loadVar_row (P := Try.prog) (w5.setRow (w.heap.size + 1) Z) (w.heap.size + 1) 105 105 Z (0, 0) _ (setRow_heap _ _ _ _ _ _ HR5.out) Try.underlying105 (by simp) (by rw [HZS.out]; exact infoSummary)
        exact bodyPost_ret (v := .tuple #[.agg Z, .int .i64 21]) (results_cell2 Try.results81 rfl rfl hld) rfl (rlSum_no HNO.out (by rw [HZE.out]) (below_row HB5.out (by omega)))
    · have hkk : ((k.toNat : Int) != 3) = true := kind_ne k 3 hk
      have hno : sumRdOk l = false := by rw [HOKD.out]; simp [hk]
      have HNO := Lib.hid hno
      clear hk hno
      go_wp2_with (first
        | (refine wpList_load_row rfl 105 (.tmp 11) rfl (w.heap.size + 1 + 1 + 1) rfl _ _ _ _ HN.out Try.underlying105 rfl (by rw [HZS.out]; exact infoSummary) ?_)
        | (refine wpList_store_row rfl 105 (.tmp 8) (.tmp 29) rfl (w.heap.size + 1) Z Z 105 rfl rfl HR.out (by rw [HZS.out]; exact infoSummary) rfl HZ1.out ?_))
      have hld := run_loadVar_row (P := Try.prog) (w3.setRow (w.heap.size + 1) Z) (w.heap.size + 1) 105 105 Z (0, 0) _ (setRow_heap _ _ _ _ _ _ HR.out) Try.underlying105 (by simp) (by rw [HZS.out]; exact infoSummary)
      exact bodyPost_ret (v := .tuple #[.agg Z, .int .i64 21]) (results_cell2 Try.results81 rfl rfl hld) rfl (rlSum_no HNO.out (by rw [HZE.out]) (below_row HB3.out (by omega)))
end Go.Proofs.Ytlcbfpcabalgcaa
