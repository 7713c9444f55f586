/-
  Disk: the reference's lay.
-/
import Derived.Test.YtiehfaiadhhndaaDskR
namespace Go.Proofs.Ytiehfaiadhhndaa
open Go.RowKit
set_option linter.unusedVariables false
set_option linter.unusedSimpArgs false
set_option linter.unnecessarySimpa false
theorem run_buildSlice_zero {P : Program} (w : World) (t e : TypeId) (i : TypeInfo) (z : Value) (n : Nat) (ht : P.underlying t = some (.slice e)) (hi : P.info? e = some i) (hz : i.zero = some z) (hs : i.size = n) (h0 : 0 < n) (h24 : n ≤ 16777216) :
    (Instr.buildSlice t 0 #[]).run P w = .ok (.slice (some ⟨w.heap.size, 0, none⟩) 0 0) (w.alloc (.cells #[] e)) := by
  subst hs
  have h1 : ¬ (2 ^ 24 < i.size) := by omega
  have h2 : ¬ (i.size = 0) := by omega
  unfold Instr.buildSlice
  simp only [Sem.run_bind, run_underlying ht, Result.andThen_ok]
  simp [sizeOf, typeInfo, zeroValue, hi, hz, h1, h2, Instr.fill, newRow]
  rw [Array.eq_empty_of_size_eq_zero (xs := Array.map (fun x => default) (Array.range 0)) (by simp)]
theorem wpList_buildSlice0 {P : Program} {ops : Array Oper} {rest : List Oper} {o : Oper} {a : Act} {w : World} {Q : Exit → Act → World → Prop} (hgd : o.guard = none) (t : TypeId) (ho : o.op = .buildSlice t 0 #[])
    (e : TypeId) (z : Value) (n bytes : Nat) (ht : P.underlying t = some (.slice e)) (hinfo : (P.info? e).map (fun i => (i.zero, i.size, i.bytes)) = some (some z, n, bytes)) (h0 : 0 < n) (h24 : n ≤ 16777216)
    (h : ∀ v w', w'.ownsRow w.heap.size e n v 0 [] → Below w.heap.size w w' → wpList P ops Q rest (a.put o.dst v) w') : wpList P ops Q (o :: rest) a w := by
  refine wpList_plain hgd fun K hK => ?_
  obtain ⟨i, hi, hz, hsi, hbi⟩ := info_parts hinfo
  have hr := run_buildSlice_zero w t e i z n ht hi hz hsi h0 h24
  unfold Oper.wp execOp
  simp only [ho, Sem.run_bind, List.map_toArray, List.map_nil, hr, Result.andThen_ok]
  exact hK _ _ (h _ _ ⟨by simp, .inr ⟨w.heap.size, 0, #[], rfl, Nat.le_refl _, new_heap w (.cells #[] e (0, 0)), Nat.le_refl _, by simp [maxLen], by simp, by simp⟩⟩ ((Below.refl _ w).alloc (Nat.le_refl _) _))
theorem own_arr {α : Type} {w : World} {f : α → List Value} {k base T n : Nat} {v : Value} {L : List α} (h : w.ownsRow base T k v n (rowsOf f L)) (hn : n = L.length) (h1 : 1 ≤ n) : ∃ g c, v = .slice (some ⟨g, 0, none⟩) n c ∧ ArrAt w g T f k L c ∧ base ≤ g := by
  subst hn
  rcases h with ⟨h1, ⟨rfl, h2⟩ | ⟨g, cap, cur, rfl, e2, e3, e4, e5, e6, e7⟩⟩
  · omega
  · exact ⟨g, cap, rfl, ⟨cur, e3, e6, e4, e5, e7⟩, e2⟩
theorem zArr_cells : (Value.agg zArr).cells.size = 128 := zArr_size
def RLayTo (w : World) (D : Dk) (L : List Wr) (e : Ending) (w' : World) : Prop := ∃ vS, e = .returned (rdV { D with S := layS D.S L, Q := [] } vS (.slice none 0 0)) ∧ w'.ownsRow w.heap.size 30 128 vS D.S.length (rowsOf scF (layS D.S L)) ∧ Below w.heap.size w w'
set_option maxRecDepth 100000 in
set_option maxHeartbeats 4000000 in
theorem rlay3_any {w : World} {F G : Nat → Prop} {vS vQ vl : Value} {D : Dk} {L : List Wr} (h : RefAt w F vS vQ D) (hl : RowsAt w G wrF 129 vl L) (hL : L.length ≤ 1000) (hS1 : 1 ≤ D.S.length) (hS : D.S.length ≤ 65536) (hat : ∀ q ∈ L, 0 ≤ q.at_ ∧ q.at_ < (D.S.length : Int)) :
    Calls Try.prog 42 #[rdV D vS vQ, vl] w (RLayTo w D L) := by
  have HL := Lib.hid hl
  have HR := Lib.hid h
  have HAT := Lib.hid hat
  obtain ⟨A, c, rfl, _⟩ := h.secs
  obtain ⟨A2, c2, rfl, _⟩ := h.que
  obtain ⟨A3, c3, rfl, _⟩ := hl
  clear h hat
  obtain ⟨w1, hw1⟩ : ∃ w1, (w.alloc (.cells #[.slice A D.S.length c, .slice A2 D.Q.length c2, .bool D.dead, .int .i64 D.arm, .int .i64 D.deeds] 43)).alloc (.cells #[.slice none 0 0, .slice none 0 0, .bool false, .int .i64 0, .int .i64 0] 43) = w1 := ⟨_, rfl⟩
  have HB1 : Hid (Below w.heap.size w w1) := Lib.hid (by rw [← hw1]; exact ((Below.refl w.heap.size w).alloc (Nat.le_refl _) _).alloc (by simp) _)
  have hx2 : w1.heap[w.heap.size]? = some (.cells #[.slice A D.S.length c, .slice A2 D.Q.length c2, .bool D.dead, .int .i64 D.arm, .int .i64 D.deeds] 43 (0, 0)) := by
    rw [← hw1]
    exact old_heap (new_heap w _) ((Below.refl _ _).alloc (Nat.le_refl _) _)
  have hx4 : w1.heap[w.heap.size + 1]? = some (.cells #[.slice none 0 0, .slice none 0 0, .bool false, .int .i64 0, .int .i64 0] 43 (0, 0)) := by
    rw [← hw1]
    have := new_heap (w.alloc (.cells #[.slice A D.S.length c, .slice A2 D.Q.length c2, .bool D.dead, .int .i64 D.arm, .int .i64 D.deeds] 43)) (.cells #[.slice none 0 0, .slice none 0 0, .bool false, .int .i64 0, .int .i64 0] 43 (0, 0))
    rw [World.size_alloc] at this
    exact this
  have HX2 := Lib.hid hx2
  have HX4 := Lib.hid hx4
  unfold rdV
  have HW1 := Lib.hid hw1
  clear hw1 hx2 hx4
  go_enter Try.func42, Try.ntmps42
  go_upto_region 1 with fail
  rw [HW1.out]
  have hlt0 : w.heap.size + 1 < w1.heap.size := (Array.getElem?_eq_some_iff.1 HX4.out).1
  have hb0 := HR.out.secs
  clear HW1
  go_upto_region 2 with (first
    | (refine wpList_buildSlice0 rfl 40 rfl 30 (.agg zArr) 128 128 Try.underlying40 info_arr3 (by decide) (by decide) ?_; intro v2 w2 ho2 hb2; obtain ⟨s2, cc2, rfl⟩ := own_slice1 ho2; have HO2 := Lib.hid ho2; have HB2 := Lib.hid (bnext HB1.out hb2); have HRD := Lib.hid (rows_rd scF_len (by decide) (hb0.below scF_len HB2.out)); have k0 : w2.cell? ⟨w.heap.size, 0, none⟩ = some (.slice A D.S.length c) := cell_row (old_heap HX2.out hb2) 0; have HX22 := Lib.hid (old_heap HX2.out hb2); have HX42 := Lib.hid (old_heap HX4.out hb2); have hsz2 := hb2.size; clear ho2 hb2 hb0)
    | (at_builtin; refine wpList_append_rd _ rfl _ _ 40 rfl w1.heap.size 30 (.agg zArr) 128 128 Try.underlying40 info_arr3 zArr_cells (by decide) _ _ _ rfl HO2.out _ D.S.length (rowsOf scF D.S) rfl HRD.out (rowsOf_one scF_one _) ?c2 (by decide) ?c3 ?_; (case c2 => omega); (case c3 => omega); intro v3 w3 hown3 hbel3 hg3; rw [Nat.zero_add, List.nil_append] at hown3; obtain ⟨g, cg, rfl, har3, hbg⟩ := own_arr hown3 rfl hS1; have HA3 := Lib.hid har3; have HB3 := Lib.hid (HB2.out.trans (hbel3.mono (by omega))); have HX23 := Lib.hid ((hbel3.block _ (by omega)).trans HX22.out); have HX43 := Lib.hid ((hbel3.block _ (by omega)).trans HX42.out); have hsz3 := hbel3.size; have e0 := free_row HX23.out 0; have k30 : w3.cell? ⟨w.heap.size, 0, none⟩ = some (.slice A D.S.length c) := cell_row HX23.out 0; clear k0; clear hown3 hbel3 hg3 har3))
  have h24 := head_set HX23.out 0 (.slice (some ⟨g, 0, none⟩) D.S.length cg)
  have hg3 := RawAt.lt HA3.out
  have hA4 : ArrAt (w3.setCell ⟨w.heap.size, 0, none⟩ (.slice (some ⟨g, 0, none⟩) D.S.length cg)) g 30 scF 128 D.S cg := RawAt.move HA3.out (Below.heap_setCell _ _ _ _ (by show g ≠ w.heap.size; omega))
  have hX44 := (Below.heap_setCell w3 ⟨w.heap.size, 0, none⟩ (.slice (some ⟨g, 0, none⟩) D.S.length cg) (w.heap.size + 1) (by show w.heap.size + 1 ≠ w.heap.size; omega)).trans HX43.out
  have hB4 := HB3.out.setCell (p := ⟨w.heap.size, 0, none⟩) (Nat.le_refl _) (.slice (some ⟨g, 0, none⟩) D.S.length cg)
  have hsz4 : w.heap.size + 1 < (w3.setCell ⟨w.heap.size, 0, none⟩ (.slice (some ⟨g, 0, none⟩) D.S.length cg)).heap.size := (Array.getElem?_eq_some_iff.1 hX44).1
  revert h24 hA4 hX44 hB4 hsz4
  generalize w3.setCell ⟨w.heap.size, 0, none⟩ (.slice (some ⟨g, 0, none⟩) D.S.length cg) = w4
  intro h24 hA4 hX44 hB4 hsz4
  have HX2 := Lib.hid h24
  have HX4 := Lib.hid hX44
  have HA := Lib.hid hA4
  have HB := Lib.hid hB4
  clear h24 hA4 hX44 hB4 HX23 HX43 HX22 HX42 HB3 HO2 HA3 HB2 HRD e0 k30
  go_wp2
  go_loopw [5] (fun i wr => ∃ j : Nat, j ≤ L.length ∧ i = .int .i64 (j : Int) ∧ Hid (ArrAt wr g 30 scF 128 (layS D.S (L.take j)) cg) ∧ Hid (Keep (· = g) w4 wr)) (fun i _ => (L.length - intOf i).toNat)
  case atStart => exact ⟨0, by omega, by rfl, HA, Lib.hid (Keep.refl _ _)⟩
  case round =>
    obtain ⟨j, hj, rfl, HE, HK⟩ := hrel
    have hx2 := HK.out.heap HX2.out (by show ¬ w.heap.size = g; omega)
    by_cases hlt : j < L.length
    · obtain ⟨q, hq⟩ : ∃ q, L[j]? = some q := ⟨_, List.getElem?_eq_getElem hlt⟩
      obtain ⟨A', c', e1, _, _, _, hrd, hbl⟩ := HL.out
      simp only [Value.slice.injEq, true_and] at e1
      obtain ⟨rfl, rfl⟩ := e1
      obtain ⟨b, o, rfl, hrow⟩ := rows_at wrF_len hrd hq
      have hb : b < w.heap.size := (hbl _ rfl).1
      have hrw : wr.rangeAt b (o + j * 129) (wrF q) := fun i v hv => HK.out.cell (p := ⟨b, _, none⟩) ((HB.out.cell (p := ⟨b, _, none⟩) hb).trans (hrow i v hv)) (by show ¬ b = g; omega)
      have hqa := HAT.out q (List.mem_of_getElem? hq)
      have HSU := Lib.hid (layS_succ (S := D.S) hq)
      obtain ⟨i, hi⟩ : ∃ i : Nat, q.at_ = (i : Int) := ⟨q.at_.toNat, by omega⟩
      have hil : i < (layS D.S (L.take j)).length := by rw [layS_len]; omega
      obtain ⟨cs, hcs, hcl, hone⟩ : ∃ cs : List Value, scF q.s = cs ∧ cs.length = 128 ∧ ∀ v ∈ cs, v.oneCell' = true := ⟨_, rfl, scF_len _, scF_one _⟩
      have q0 : wr.drew.cell? ⟨b, o + j * 129, none⟩ = some (.int .i64 (i : Int)) := by rw [← hi]; exact hrw 0 _ rfl
      have q1 : wr.drew.rangeAt b (o + j * 129 + 1) cs := fun i v hv => by
        have := hrw (1 + i) v (by unfold wrF; rw [hcs, Nat.add_comm, List.getElem?_cons_succ]; exact hv)
        rwa [← Nat.add_assoc] at this
      have k0 : wr.drew.cell? ⟨w.heap.size, 0, none⟩ = some (.slice (some ⟨g, 0, none⟩) D.S.length cg) := by
        have := cell_row hx2 0
        simpa using this
      have hst : RawAt (wr.drew.setCells g (i * 128) cs) g 30 128 (layS D.S (L.take j)).length cg (rowsOf scF ((layS D.S (L.take j)).set i q.s)) := by
        have hr := RawAt.sets (w := wr.drew) cs (i * 128) HE.out
        rw [← hcs, rowsOf_setAt scF_len _ i q.s hil, hcs] at hr
        exact hr
      have hth : wr.drew.there g (i * 128) 128 := by
        obtain ⟨cur, e1, e2, e3, e4, e5⟩ := HE.out
        intro k hk
        have hlen : i * 128 + k < cur.size := by
          rw [e2]
          have : (i + 1) * 128 ≤ (layS D.S (L.take j)).length * 128 := Nat.mul_le_mul_right _ hil
          omega
        exact ⟨by have := cell_row e1 (i * 128 + k); rw [World.cell?_drew, this]; simp [hlen], free_row e1 _⟩
      have hkk : Keep (· = g) wr (wr.drew.setCells g (i * 128) cs) := by
        obtain ⟨h1, h2⟩ := tape_setCells g cs (i * 128) wr.drew
        exact ⟨World.os_setCells _ _ _ _, h1, World.output_setCells _ _ _ _, by rw [h2]; exact Nat.le_refl _, fun k hk hf => World.heap_setCells_other _ _ _ _ hk hf⟩
      have u0 := hkk.cell (p := ⟨w.heap.size, 0, none⟩) k0 (by show ¬ w.heap.size = g; omega)
      have u1 := hkk.cell (p := ⟨b, o + j * 129, none⟩) q0 (by show ¬ b = g; omega)
      have u2 : (wr.drew.setCells g (i * 128) cs).rangeAt b (o + j * 129 + 1) cs := fun m v hv => hkk.cell (p := ⟨b, _, none⟩) (q1 m v hv) (by show ¬ b = g; omega)
      have u3 := World.there_setCells hth g (i * 128) cs
      have hu := Try.underlying30
      have hsz : (Try.prog.info? 30).map (·.size) = some cs.length := by rw [hcl]; exact size_arr
      have hi0 : (0 : Int) ≤ (i : Int) := by omega
      have hi1 : (i : Int) < ((D.S.length : Nat) : Int) := by rw [layS_len] at hil; omega
      have HST := Lib.hid hst
      have HKK := Lib.hid (HK.out.trans hkk)
      have HI := Lib.hid hi
      clear hrd hbl hrow hrw hq hqa hx2 hst hkk hi hcs hil
      go_upto_region 5 with fail
      go_region_held3 (fun w' => w'.cell? ⟨w.heap.size, 0, none⟩ = some (.slice (some ⟨g, 0, none⟩) D.S.length cg) ∧ w'.cell? ⟨b, o + j * 129, none⟩ = some (.int .i64 (i : Int)) ∧ w'.rangeAt b (o + j * 129 + 1) cs ∧ w'.there g (i * 128) 128) (first | exact ⟨k0, q0, q1, hth⟩ | exact ⟨u0, u1, u2, u3⟩ | trace_state)
        (first
          | (trace_state; fail))
      clear k0 q0 q1 hth u0 u1 u2 u3
      revert HST HKK
      generalize wr.drew.setCells g (i * 128) cs = w9
      intro HST HKK
      go_wp2
      refine ⟨⟨j + 1, by omega, by go_num, Lib.hid ?_, HKK⟩, by simp [intOf]; omega⟩
      have := HST.out
      rw [HSU.out, HI.out, Int.toNat_natCast]
      exact ArrAt.of_raw this (by simp) rfl
    · obtain rfl : j = L.length := by omega
      have hT : L.take L.length = L := List.take_length
      rw [hT] at HE
      have hx2' : wr.heap[w.heap.size]? = some (.cells #[.slice (some ⟨g, 0, none⟩) D.S.length cg, .slice A2 D.Q.length c2, .bool D.dead, .int .i64 D.arm, .int .i64 D.deeds] 43 (0, 0)) := by simpa using hx2
      have hx4 := HK.out.heap HX4.out (by show ¬ w.heap.size + 1 = g; omega)
      have k0 : wr.cell? ⟨w.heap.size, 0, none⟩ = some (.slice (some ⟨g, 0, none⟩) D.S.length cg) := cell_row hx2' 0
      have k1 : wr.cell? ⟨w.heap.size, 1, none⟩ = some (.slice A2 D.Q.length c2) := cell_row hx2' 1
      have k2 : wr.cell? ⟨w.heap.size, 2, none⟩ = some (.bool D.dead) := cell_row hx2' 2
      have k3 : wr.cell? ⟨w.heap.size, 3, none⟩ = some (.int .i64 D.arm) := cell_row hx2' 3
      have k4 : wr.cell? ⟨w.heap.size, 4, none⟩ = some (.int .i64 D.deeds) := cell_row hx2' 4
      have f1 := free_row hx2' 1
      have m0 : wr.cell? ⟨w.heap.size + 1, 0, none⟩ = some (.slice none 0 0) := cell_row hx4 0
      have m1 : wr.cell? ⟨w.heap.size + 1, 1, none⟩ = some (.slice none 0 0) := cell_row hx4 1
      have m2 : wr.cell? ⟨w.heap.size + 1, 2, none⟩ = some (.bool false) := cell_row hx4 2
      have m3 : wr.cell? ⟨w.heap.size + 1, 3, none⟩ = some (.int .i64 0) := cell_row hx4 3
      have m4 : wr.cell? ⟨w.heap.size + 1, 4, none⟩ = some (.int .i64 0) := cell_row hx4 4
      have n0 := free_row hx4 0
      have n1 := free_row hx4 1
      have n2 := free_row hx4 2
      have n3 := free_row hx4 3
      have n4 := free_row hx4 4
      have HX2' := Lib.hid hx2'
      have HX4' := Lib.hid hx4
      clear hx2 hx2' hx4
      go_wp2
      rw [← set5]
      have hb5 : Below w.heap.size w (wr.setCell ⟨w.heap.size, 1, none⟩ (.slice none 0 0)) := (HB.out.trans (HK.out.below (fun i e => by subst e; omega) (by omega))).setCell (p := ⟨w.heap.size, 1, none⟩) (Nat.le_refl _) _
      have hx5 := (Below.heap_setCell wr ⟨w.heap.size, 1, none⟩ (.slice none 0 0) (w.heap.size + 1) (by show w.heap.size + 1 ≠ w.heap.size; omega)).trans HX4'.out
      have h5 := set5_heap (a' := .slice (some ⟨g, 0, none⟩) D.S.length cg) (b' := .slice none 0 0) (c' := .bool D.dead) (d' := .int .i64 D.arm) (e' := .int .i64 D.deeds) hx5
      refine bodyPost_ret (results_cell1 Try.results42 rfl (load_rdisk h5)) rfl ⟨.slice (some ⟨g, 0, none⟩) D.S.length cg, ?_, ?_, set5_below hb5 (by omega)⟩
      · unfold rdV; rfl
      · have ho := ArrAt.own (base := w1.heap.size) scF_len HE.out (by omega)
        rw [layS_len] at ho
        refine own_low (own_move ho (fun k hk => ?_)) (by omega)
        have : g = k := by simpa [Value.ownBlock] using hk
        subst this
        rw [set5_far (by omega)]
        exact Below.heap_setCell _ _ _ _ (by show g ≠ w.heap.size; omega)
end Go.Proofs.Ytiehfaiadhhndaa
