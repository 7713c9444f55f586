/-
  Codec: the reference's inodes.
-/
import Derived.Test.YtlcbfpcabalgcaaCodK
import Derived.Test.YtlcbfpcabalgcaaCodI
namespace Go.Proofs.Ytlcbfpcabalgcaa
open Go.RowKit
set_option linter.unusedVariables false
set_option linter.unusedSimpArgs false
set_option linter.unnecessarySimpa false
theorem infoFld : (Try.prog.info? 148).map (fun i => (i.zero, i.size, i.bytes)) = some (some (.agg #[.int .i64 0, .int .i64 0]), 2, 16) := by kernel_rfl
theorem rd_rowN {w : World} {g k n : Nat} {t : TypeId} {cs : List Value} (h : w.heap[g]? = some (.cells cs.toArray t (0, 0))) (hk : cs.length = n * k) (c : Nat) : Rd w (.slice (some ⟨g, 0, none⟩) n c) k n cs :=
  ⟨hk, .inr ⟨_, c, rfl, fun j u hu => by rw [add_at, cell_row h, Nat.zero_add]; simpa using hu⟩⟩
theorem own_new {w : World} {T k n : Nat} {cs : List Value} (hk : cs.length = n * k) (hn : n ≤ maxLen) : (w.alloc (.cells cs.toArray T (0, 0))).ownsRow w.heap.size T k (.slice (some ⟨w.heap.size, 0, none⟩) n n) n cs :=
  ⟨hk, .inr ⟨w.heap.size, n, cs.toArray, rfl, Nat.le_refl _, heap_alloc_last w _, Nat.le_refl _, hn, by simp [hk], by rw [List.take_of_length_le (by simp [hk])]⟩⟩
theorem rd_rows5 (w : World) (num ver : Nat) (kind size : Int) (time : Nat) : (w.alloc (.cells #[.int .i64 2, .int .i64 (num : Int), .int .i64 4, .int .i64 (ver : Int), .int .i64 1, .int .i64 kind, .int .i64 4, .int .i64 size, .int .i64 4, .int .i64 (time : Int)] 148 (0, 0))).ownsRow w.heap.size 148 2 (.slice (some ⟨w.heap.size, 0, none⟩) 5 5) (5 + 0) (rowsOf fldF ([(2, (num : Int)), (4, (ver : Int)), (1, kind), (4, size), (4, (time : Int))] ++ fourL ([].take 0))) :=
  own_new (k := 2) (n := 5) (cs := [.int .i64 2, .int .i64 (num : Int), .int .i64 4, .int .i64 (ver : Int), .int .i64 1, .int .i64 kind, .int .i64 4, .int .i64 size, .int .i64 4, .int .i64 (time : Int)]) rfl (by decide)
set_option maxRecDepth 10000 in
set_option maxHeartbeats 8000000 in
theorem inoFields_any (x : Ino) (w : World) (hx : x.Ok) :
    Calls Try.prog 49 #[.agg x.cells.toArray] w fun e w' => ∃ v, e = .returned v ∧ w'.ownsRow w.heap.size 148 2 v (inoL x).length (rowsOf fldF (inoL x)) ∧ Below w.heap.size w w' := by
  have hb1 : Below w.heap.size w (w.alloc (.cells x.cells.toArray 25 (0, 0))) := (Below.refl _ _).alloc (Nat.le_refl _) _
  have hG1 := heap_alloc_last w (.cells x.cells.toArray 25 (0, 0))
  have HX := Lib.hid hx
  have hs1 : (w.alloc (.cells x.cells.toArray 25 (0, 0))).heap.size = w.heap.size + 1 := by simp
  have HB1 := Lib.hid hb1
  have HG1 := Lib.hid hG1
  have HS1 := Lib.hid hs1
  obtain ⟨num, ver, kind, size, time, ds, single, dbl⟩ := x
  have r0 := hx.num
  have r1 := hx.ver
  have r4 := hx.time
  dsimp only at r0 r1 r4
  have hw0 : IntKind.i64.wrap (num : Int) = (num : Int) := IntWalk.i64_in _ (by omega)
  have hw1 : IntKind.i64.wrap (ver : Int) = (ver : Int) := IntWalk.i64_in _ (by omega)
  have hw4 : IntKind.i64.wrap (time : Int) = (time : Int) := IntWalk.i64_in _ (by omega)
  clear hx hb1 hG1 hs1
  go_enter Try.func49, Try.ntmps49
  go_upto_region 1 with fail
  revert HB1 HG1 HS1
  generalize w.alloc (.cells _ 25 (0, 0)) = w1
  intro HB1 HG1 HS1
  have c0 : w1.cell? ⟨w.heap.size, 0, none⟩ = some (.int .u32 (num : Int)) := cell_row HG1.out 0
  have c1 : w1.cell? ⟨w.heap.size, 1, none⟩ = some (.int .u32 (ver : Int)) := cell_row HG1.out 1
  have c2 : w1.cell? ⟨w.heap.size, 2, none⟩ = some (.int .i64 kind) := cell_row HG1.out 2
  have c3 : w1.cell? ⟨w.heap.size, 3, none⟩ = some (.int .i64 size) := cell_row HG1.out 3
  have c4 : w1.cell? ⟨w.heap.size, 4, none⟩ = some (.int .u32 (time : Int)) := cell_row HG1.out 4
  go_wp2
  have hlen := HX.out.len
  dsimp only at hlen
  have HLEN := Lib.hid hlen
  have hR := rd_rows5 w1 num ver kind size time
  have HR := Lib.hid hR
  clear hlen hR
  go_loopw [3, 4] (fun v i wr => ∃ k : Nat, k ≤ 8 ∧ i = .int .i64 (k : Int) ∧ Hid (wr.ownsRow w1.heap.size 148 2 v (5 + k) (rowsOf fldF ([(2, (num : Int)), (4, (ver : Int)), (1, kind), (4, size), (4, (time : Int))] ++ fourL (ds.take k)))) ∧ Hid (Below w1.heap.size w1 wr)) (fun _ i _ => (8 - intOf i).toNat)
  case atStart => exact ⟨0, by omega, rfl, HR, Lib.hid ((Below.refl _ _).alloc (Nat.le_refl _) _)⟩
  case round =>
    obtain ⟨k, hk, rfl, HO, HBB⟩ := hrel
    obtain ⟨O, hO⟩ : ∃ O, [(2, (num : Int)), (4, (ver : Int)), (1, kind), (4, size), (4, (time : Int))] ++ fourL (ds.take k) = O := ⟨_, rfl⟩
    rw [hO] at HO
    have HOE := Lib.hid hO
    clear hO HR c0 c1 c2 c3 c4 hw0 hw1 hw4
    obtain ⟨s1, q1, rfl⟩ := own_slice1 HO.out
    by_cases hlt : k < 8
    · have hkI : (k : Int) < 8 := by omega
      obtain ⟨d, hd⟩ : ∃ d, ds.getD k 0 = d := ⟨_, rfl⟩
      have HD := Lib.hid hd
      have e1 := inoF_at5 _ HX.out k hlt
      dsimp only at e1
      rw [hd] at e1
      have cx : wr.cell? ⟨w.heap.size, 5 + k, none⟩ = some (.int .i64 d) := (HBB.out.cell (p := ⟨w.heap.size, 5 + k, none⟩) (by show w.heap.size < w1.heap.size; have := HS1.out; omega)).trans ((cell_row HG1.out (5 + k)).trans (by rw [List.getElem?_toArray]; exact e1))
      have hoa := HO.out.alloc (.cells #[.int .i64 4, .int .i64 d] 148 (0, 0))
      have hba := HBB.out.alloc HBB.out.size (.cells #[.int .i64 4, .int .i64 d] 148 (0, 0))
      have hrd1 := rd_row (cs := [.int .i64 4, .int .i64 d]) (heap_alloc_last wr (.cells #[.int .i64 4, .int .i64 d] 148 (0, 0))) rfl 1
      have HOA := Lib.hid hoa
      have HBA := Lib.hid hba
      have HR1 := Lib.hid hrd1
      clear hd e1 hoa hba hrd1
      go_wp2_with (at_builtin; go_must (refine wpList_append_rd _ rfl (.tmp 28) (.tmp 34) 119 rfl w1.heap.size 148 (.agg #[.int .i64 0, .int .i64 0]) 2 16 Try.underlying119 infoFld rfl (by decide) _ _ _ rfl HOA.out _ 1 [.int .i64 4, .int .i64 d] rfl HR1.out ?c1 ?c2 (by decide) HBA.out.size ?_; (case c1 => intro u hu; simp at hu; rcases hu with rfl | rfl <;> rfl); (case c2 => omega); intro v5 w5 hown5 hbel5 hg5; have HO5 := Lib.hid hown5; have HB5 := Lib.hid (HBA.out.trans hbel5); clear hown5 hbel5 hg5))
      have HO6 : Hid (w5.ownsRow w1.heap.size 148 2 v5 (5 + (k + 1)) (rowsOf fldF ([(2, (num : Int)), (4, (ver : Int)), (1, kind), (4, size), (4, (time : Int))] ++ fourL (ds.take (k + 1))))) := Lib.hid (by
        have h1 := fourL_snoc ds k (by rw [HLEN.out]; exact hlt)
        rw [h1, HD.out, ← List.append_assoc, HOE.out, rowsOf_snoc]
        exact HO5.out)
      clear HO5
      go_roundw
      case rel => exact ⟨k + 1, by omega, by go_num, HO6, HB5⟩
      case measure => simp [intOf]; omega
    · obtain rfl : k = 8 := by omega
      have e1 := inoF_at13 _ HX.out
      dsimp only at e1
      have hbl : w.heap.size < w1.heap.size := by have := HS1.out; omega
      have cx : wr.cell? ⟨w.heap.size, 13, none⟩ = some (.int .i64 single) := (HBB.out.cell (p := ⟨w.heap.size, 13, none⟩) hbl).trans ((cell_row HG1.out 13).trans (by rw [List.getElem?_toArray]; exact e1.1))
      have cy : wr.cell? ⟨w.heap.size, 14, none⟩ = some (.int .i64 dbl) := (HBB.out.cell (p := ⟨w.heap.size, 14, none⟩) hbl).trans ((cell_row HG1.out 14).trans (by rw [List.getElem?_toArray]; exact e1.2))
      have hoa := HO.out.alloc (.cells #[.int .i64 4, .int .i64 single, .int .i64 4, .int .i64 dbl] 148 (0, 0))
      have hba := HBB.out.alloc HBB.out.size (.cells #[.int .i64 4, .int .i64 single, .int .i64 4, .int .i64 dbl] 148 (0, 0))
      have hrd1 := rd_rowN (cs := [.int .i64 4, .int .i64 single, .int .i64 4, .int .i64 dbl]) (heap_alloc_last wr (.cells #[.int .i64 4, .int .i64 single, .int .i64 4, .int .i64 dbl] 148 (0, 0))) (k := 2) (n := 2) rfl 2
      have HOA := Lib.hid hoa
      have HBA := Lib.hid hba
      have HR1 := Lib.hid hrd1
      clear e1 hoa hba hrd1
      go_wp2_with (at_builtin; go_must (refine wpList_append_rd _ rfl (.tmp 36) (.tmp 43) 119 rfl w1.heap.size 148 (.agg #[.int .i64 0, .int .i64 0]) 2 16 Try.underlying119 infoFld rfl (by decide) _ _ _ rfl HOA.out _ 2 [.int .i64 4, .int .i64 single, .int .i64 4, .int .i64 dbl] rfl HR1.out ?c1 ?c2 (by decide) HBA.out.size ?_; (case c1 => intro u hu; simp at hu; rcases hu with rfl | rfl | rfl | rfl <;> rfl); (case c2 => omega); intro v5 w5 hown5 hbel5 hg5; have HO5 := Lib.hid hown5; have HB5 := Lib.hid (HBA.out.trans hbel5); clear hown5 hbel5 hg5))
      go_ret
      refine ⟨_, rfl, ?_, HB1.out.trans (HB5.out.mono (by have := HS1.out; omega))⟩
      have h1 : fourL (ds.take 8) = fourL ds := by rw [List.take_of_length_le (by rw [HLEN.out]; exact Nat.le_refl _)]
      have h2 : (inoL ⟨num, ver, kind, size, time, ds, single, dbl⟩) = O ++ [(4, single), (4, dbl)] := by rw [← HOE.out, h1]; rfl
      have h3 : (O ++ [(4, single), (4, dbl)]).length = 5 + 8 + 2 := by rw [← HOE.out, h1]; simp [fourL, HLEN.out]
      rw [h2, h3, rowsOf_append]
      exact own_low HO5.out (by have := HS1.out; omega)
theorem infoRInode : (Try.prog.info? 25).map (·.size) = some 15 := by kernel_rfl
theorem ino_size (x : Ino) (hx : x.Ok) : x.cells.toArray.size = 15 := by rw [List.size_toArray, Ino.cells, inoF_len, hx.len]
theorem fld_mk (k : Nat) (x : Int) (h : 1 ≤ k ∧ k ≤ 8) (hx : I64 x) : FldOk (k, x) := ⟨h.1, h.2, hx⟩
theorem inoL_ok (x : Ino) (hx : x.Ok) : ∀ y ∈ inoL x, FldOk y := by
  intro y hy
  have w32 : ∀ n : Nat, n < 2 ^ 32 → I64 (n : Int) := fun n h => ⟨by omega, by omega⟩
  simp only [inoL, inoL5, fourL, List.mem_append, List.mem_cons, List.mem_map, List.not_mem_nil, or_false] at hy
  rcases hy with (rfl | rfl | rfl | rfl | rfl) | ⟨d, hd, rfl⟩ | rfl | rfl
  · exact fld_mk _ _ (by decide) (w32 _ hx.num)
  · exact fld_mk _ _ (by decide) (w32 _ hx.ver)
  · exact fld_mk _ _ (by decide) (hx.kind)
  · exact fld_mk _ _ (by decide) (hx.size)
  · exact fld_mk _ _ (by decide) (w32 _ hx.time)
  · exact fld_mk _ _ (by decide) (hx.ds d hd)
  · exact fld_mk _ _ (by decide) (hx.single)
  · exact fld_mk _ _ (by decide) (hx.dbl)
theorem inoL_len (x : Ino) (hx : x.Ok) : (inoL x).length = 15 := by simp [inoL, inoL5, fourL, hx.len]
/-- May an inode be of this kind? -/
def inoMay (kind : Int) : Bool := decide (1 ≤ kind ∧ kind ≤ 2)
theorem inoF_at2 (x : Ino) : x.cells.toArray[2]? = some (.int .i64 x.kind) := rfl
set_option maxRecDepth 10000 in
set_option maxHeartbeats 8000000 in
theorem rwriteInode_any (x : Ino) (w : World) (hx : x.Ok) :
    Calls Try.prog 13 #[.agg x.cells.toArray] w (RsS w 2 (inoMay x.kind && !fBad (inoL x)) (fB (inoL x))) := by
  have HX := Lib.hid hx
  have HIS := Lib.hid (ino_size x hx)
  have HIF := fun w' => Lib.hid (inoFields_any x w' hx)
  obtain ⟨C, hC⟩ : ∃ C, x.cells.toArray = C := ⟨_, rfl⟩
  obtain ⟨kd, hkd⟩ : ∃ kd, x.kind = kd := ⟨_, rfl⟩
  have hc2 := inoF_at2 x
  rw [hkd, hC] at hc2
  rw [hC] at HIS HIF ⊢
  rw [hkd]
  have HC2 := Lib.hid hc2
  clear hx hC hkd hc2
  have hb1 : Below w.heap.size w ((w.alloc (.cells C 25 (0, 0))).alloc (.cells Try.zeroCells28 28 (0, 0))) := ((Below.refl _ _).alloc (Nat.le_refl _) _).alloc (by simp) _
  have hG1 := old_heap (heap_alloc_last w (.cells C 25 (0, 0))) ((Below.refl _ _).alloc (Nat.le_refl _) (.cells Try.zeroCells28 28 (0, 0)))
  have hT1 := heap_alloc_last (w.alloc (.cells C 25 (0, 0))) (.cells Try.zeroCells28 28 (0, 0))
  have hs1 : (w.alloc (.cells C 25 (0, 0))).heap.size = w.heap.size + 1 := by simp
  rw [hs1] at hT1
  have HB1 := Lib.hid hb1
  have HG1 := Lib.hid hG1
  have HT1 := Lib.hid hT1
  clear hb1 hG1 hs1 hT1
  go_enter Try.func13, Try.ntmps13
  go_upto_region 1 with fail
  revert HB1 HG1 HT1
  generalize (w.alloc (.cells C 25 (0, 0))).alloc (.cells Try.zeroCells28 28 (0, 0)) = w1
  intro HB1 HG1 HT1
  have c2 : w1.cell? ⟨w.heap.size, 2, none⟩ = some (.int .i64 kd) := (cell_row HG1.out 2).trans HC2.out
  by_cases hk : 1 ≤ kd ∧ kd ≤ 2
  · obtain ⟨hk1, hk2⟩ := hk
    have hmay : inoMay kd = true := by simp [inoMay, hk1, hk2]
    have HMAY := Lib.hid hmay
    clear hmay
    obtain ⟨ok, hok⟩ : ∃ ok, fBad (inoL x) = ok := ⟨_, rfl⟩
    obtain ⟨L, hL⟩ : ∃ L, fB (inoL x) = L := ⟨_, rfl⟩
    have hS : (bvs (wrS 2 (!ok) L)).toArray.size = 128 := by rw [secV_size, wrS_length]
    have HSS := Lib.hid hS
    have HOK := Lib.hid hok
    have HL := Lib.hid hL
    rw [hok, hL]
    clear hS hok hL
    go_wp2_with (first
      | (refine wpList_load_row rfl 25 (.tmp 1) rfl w.heap.size rfl _ _ _ _ HG1.out Try.underlying25 rfl (by rw [HIS.out]; exact infoRInode) ?_)
      | (go_at_call 49; refine (HIF w1).out.mono ?_; rintro e w2 ⟨v2, rfl, ho2, hb2⟩; have HT2 := Lib.hid (old_heap HT1.out hb2); have HB2 := Lib.hid (bnext HB1.out hb2); have hse := rsealed_any 2 v2 (inoL x) w2 (own_rows fldF_len ho2 rfl (fun _ _ => id)) (inoL_ok x HX.out) (by rw [inoL_len x HX.out]; decide); rw [HOK.out, HL.out] at hse; unfold RsS at hse; have HSE := Lib.hid hse; clear ho2 hb2 hse)
      | (go_at_call 48; refine HSE.out.mono ?_; rintro e w3 ⟨rfl, hb3⟩; unfold secV; have HT3 := Lib.hid (old_heap HT2.out hb3); have HB3 := Lib.hid (bnext HB2.out hb3); clear hb3)
      | (refine wpList_store_row rfl 28 (.tmp 2) (.tmp 16) rfl (w.heap.size + 1) zArr (bvs (wrS 2 (!ok) L)).toArray 28 rfl rfl HT3.out (by rw [HSS.out]; exact size_arr) (by rw [HSS.out, zArr_size]) (sec_one _) ?_))
    have hld := run_loadVar_row (P := Try.prog) (w3.setRow (w.heap.size + 1) (bvs (wrS 2 (!ok) L)).toArray) (w.heap.size + 1) 28 28 (bvs (wrS 2 (!ok) L)).toArray (0, 0) _ (setRow_heap _ _ _ _ _ _ HT3.out) Try.underlying28 (by simp) (by rw [HSS.out]; exact size_arr)
    refine bodyPost_ret (v := .tuple #[secV (wrS 2 (!ok) L), .bool (!ok && mayB 2 L)]) (results_cell2 Try.results13 rfl rfl hld) rfl ?_
    rw [HMAY.out, Bool.true_and]
    exact ⟨by rw [HOK.out, HL.out], below_row HB3.out (by omega)⟩
  · have hmay : inoMay kd = false := by simp only [inoMay]; exact decide_eq_false hk
    have HMAY := Lib.hid hmay
    clear hmay
    have hcut : ∀ G : Prop, (kd < 1 → G) → (¬ kd < 1 → 2 < kd → G) → G := fun G a b => by
      by_cases h1 : kd < 1
      · exact a h1
      · exact b h1 (by omega)
    clear hk
    refine hcut _ ?_ ?_ <;> clear hcut <;> intros
    all_goals
      go_wp2_with (refine wpList_store_row rfl 28 (.tmp 2) (.tmp 12) rfl (w.heap.size + 1) zArr zArr 28 rfl rfl HT1.out (by rw [zArr_size]; exact size_arr) rfl zArr_one ?_)
      have hld := run_loadVar_row (P := Try.prog) (w1.setRow (w.heap.size + 1) zArr) (w.heap.size + 1) 28 28 zArr (0, 0) _ (setRow_heap _ _ _ _ _ _ HT1.out) Try.underlying28 (by simp) (by rw [zArr_size]; exact size_arr)
      exact bodyPost_ret (v := .tuple #[secV (List.replicate 128 0), .bool false]) (results_cell2 Try.results13 rfl rfl hld) rfl (rsS_no (by rw [HMAY.out]; rfl) rfl (below_row HB1.out (by omega)))
end Go.Proofs.Ytlcbfpcabalgcaa
