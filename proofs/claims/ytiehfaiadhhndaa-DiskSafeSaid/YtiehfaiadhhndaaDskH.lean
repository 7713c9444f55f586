/-
  Disk: Queue.
-/
import Derived.Test.YtiehfaiadhhndaaDskG
namespace Go.Proofs.Ytiehfaiadhhndaa
open Go.RowKit
set_option linter.unusedVariables false
set_option linter.unusedSimpArgs false
def atsV (L : List Wr) : List Value := L.map (fun q => Value.int .i64 q.at_)
def QueTo (w : World) (L : List Wr) (e : Ending) (w' : World) : Prop := ∃ v, e = .returned v ∧ w'.ownsRow w.heap.size 3 1 v L.length (atsV L) ∧ Below w.heap.size w w'
theorem infoInt : (Try.prog.info? 3).map (fun i => (i.zero, i.size, i.bytes)) = some (some (.int .i64 0), 1, 8) := by kernel_rfl
section
variable {w w' : World} {base p gS : Nat} {vq : Value} {D : Dk}
set_option maxRecDepth 100000 in
set_option maxHeartbeats 4000000 in
theorem dqueue_any (h : DkAt w base p gS vq D) (hL : D.Q.length ≤ 1000) :
    Calls Try.prog 12 #[.pointer (some ⟨p, 0, none⟩)] w (QueTo w D.Q) := by
  obtain ⟨c0, c1, c2, c3, c4⟩ := h.cells
  have HS := Lib.hid (own_src h.que (g := gS) (fun k hk => (h.qp k hk).2))
  obtain ⟨A, c, hvq⟩ := own_slice1 h.que
  subst hvq
  clear h
  generalize D.Q = L at *
  go_enter Try.func12, Try.ntmps12
  go_wp2
  go_loopw [3, 11] (fun v i wr => ∃ j : Nat, j ≤ L.length ∧ i = .int .i64 (j : Int) ∧ Hid (wr.ownsRow w.heap.size 3 1 v j (atsV (L.take j))) ∧ Hid (Below w.heap.size w wr)) (fun _ i _ => (L.length - intOf i).toNat)
  case atStart => exact ⟨0, by omega, by rfl, Lib.hid (World.ownsRow_nil _ _ _ _), Lib.hid (Below.refl _ _)⟩
  case round =>
    obtain ⟨j, hj, rfl, HO, HB⟩ := hrel
    by_cases hlt : j < L.length
    · obtain ⟨q, hq⟩ : ∃ q, L[j]? = some q := ⟨_, List.getElem?_eq_getElem hlt⟩
      obtain ⟨b, o, c', e1, hbg, hbl, hrow⟩ : ∃ b o c', (.slice A L.length c : Value) = .slice (some ⟨b, o, none⟩) L.length c' ∧ b ≠ gS ∧ b < w.heap.size ∧ w.rangeAt b (o + j * 129) (wrF q) := by
        rcases HS.out with ⟨_, e⟩ | ⟨b, o, c', e1, e2, e3, e4⟩
        · rw [e] at hlt; exact absurd hlt (Nat.not_lt_zero _)
        · exact ⟨b, o, c', e1, e2, e3, e4 j q hq⟩
      simp only [Value.slice.injEq, true_and] at e1
      obtain ⟨eA, rfl⟩ := e1
      subst eA
      have hrw : wr.rangeAt b (o + j * 129) (wrF q) := fun i v hv => (HB.out.cell (p := ⟨b, _, none⟩) hbl).trans (hrow i v hv)
      have hzw := zero_wr
      obtain ⟨z, hzc, hzl⟩ : ∃ z : List Value, wrF wr0 = z ∧ z.length = 129 := ⟨_, rfl, wrF_len _⟩
      obtain ⟨ws, hws, hwl, hw1⟩ : ∃ ws : List Value, wrF q = ws ∧ ws.length = 129 ∧ ∀ v ∈ ws, v.oneCell' = true := ⟨_, rfl, wrF_len _, wrF_one _⟩
      rw [hzc] at hzw
      have HWS := Lib.hid hws
      have HQ := Lib.hid hq
      rw [hws] at hrw
      clear hrow hq hws hzc
      go_upto_region 5 with (first
        | (refine wpList_load_mid rfl 71 (.tmp 13) rfl b (o + j * 129) rfl ws _ hrw Try.underlying71 rfl (by rw [hwl]; exact size_wr) ?_)
        | (refine wpList_store_row rfl 71 (.tmp 5) (.tmp 14) rfl wr.heap.size z.toArray ws.toArray 71 rfl rfl (heap_alloc_last _ _) (by simp only [List.size_toArray]; rw [hwl]; exact size_wr) (by simp [hwl, hzl]) (all_oneCell_toArray hw1) ?_))
      rw [World.setRow_alloc_new]
      have hx5 := new_heap wr (.cells ws.toArray 71 (0, 0))
      have hsz := HB.out.size
      have hba := HB.out.alloc hsz (.cells ws.toArray 71)
      have hoa := HO.out.alloc (.cells ws.toArray 71)
      have c50 : (wr.alloc (.cells ws.toArray 71)).cell? ⟨wr.heap.size, 0, none⟩ = some (.int .i64 q.at_) := by
        have := cell_row hx5 0
        rw [← HWS.out] at this ⊢
        exact this
      revert hba hoa c50
      generalize wr.alloc (.cells ws.toArray 71) = w5
      generalize wr.heap.size = p5
      intro hba hoa c50
      have HBA := Lib.hid hba
      have HRD := Lib.hid (rd_one (new_heap w5 (.cells #[.int .i64 q.at_] 3 (0, 0))) 1)
      have HOB := Lib.hid (hoa.alloc (.cells #[.int .i64 q.at_] 3))
      have HBB := Lib.hid (hba.alloc hba.size (.cells #[.int .i64 q.at_] 3))
      clear hba hoa HO
      have hszb := HBA.out.size
      go_wp2_with (at_builtin; refine wpList_append_rd _ rfl _ _ 28 rfl w.heap.size 3 (.int .i64 0) 1 8 Try.underlying28 infoInt rfl (by decide) _ _ _ rfl HOB.out _ 1 [.int .i64 q.at_] rfl HRD.out ?c1 ?c2 (by decide) ?c3 ?_; (case c1 => intro u hu; simp at hu; subst hu; rfl); (case c2 => omega); (case c3 => simp; omega); intro v' w1 hown1 hbel1 hg1; have HO1 := Lib.hid hown1; have HB1 := Lib.hid (HBB.out.trans hbel1); clear hown1 hbel1 hg1)
      refine ⟨⟨j + 1, by omega, by go_num, Lib.hid ?_, HB1⟩, by simp [intOf]; omega⟩
      have hx : L[j] = q := (List.getElem?_eq_some_iff.1 HQ.out).2
      have : atsV (L.take (j + 1)) = atsV (L.take j) ++ [.int .i64 q.at_] := by
        unfold atsV
        rw [List.take_succ_eq_append_getElem hlt, List.map_append, hx]; rfl
      rw [this]
      exact HO1.out
    · obtain rfl : j = L.length := by omega
      have hT : L.take L.length = L := List.take_length
      rw [hT] at HO
      go_wp2
      go_ret
      exact ⟨_, rfl, HO.out, HB.out⟩
end
end Go.Proofs.Ytiehfaiadhhndaa
