/-
  Disk: the reference's Read.
-/
import Derived.Test.YtiehfaiadhhndaaDskP
namespace Go.Proofs.Ytiehfaiadhhndaa
open Go.RowKit
set_option linter.unusedVariables false
set_option linter.unusedSimpArgs false
set_option linter.unnecessarySimpa false
theorem lastW_succ {Q : List Wr} {at_ : Int} {j : Nat} {q : Wr} (h : Q[j]? = some q) : lastW (Q.take (j + 1)) at_ = if q.at_ = at_ then some q.s else lastW (Q.take j) at_ := by
  have hlt : j < Q.length := (List.getElem?_eq_some_iff.1 h).1
  have hx : Q[j] = q := (List.getElem?_eq_some_iff.1 h).2
  unfold lastW
  rw [List.take_succ_eq_append_getElem hlt, hx, List.reverse_append, List.reverse_cons, List.reverse_nil, List.nil_append, List.singleton_append, List.find?_cons]
  by_cases hq : q.at_ = at_
  · rw [if_pos hq]
    have : (q.at_ == at_) = true := by simpa using hq
    rw [this]; rfl
  · rw [if_neg hq]
    have : (q.at_ == at_) = false := by simpa using hq
    rw [this]
def curS (D : Dk) (at_ : Int) (j : Nat) : Sc := (lastW (D.Q.take j) at_).getD (D.S.getD at_.toNat sc0)
theorem curS_succ {D : Dk} {at_ : Int} {j : Nat} {q : Wr} (h : D.Q[j]? = some q) : curS D at_ (j + 1) = if q.at_ = at_ then q.s else curS D at_ j := by
  unfold curS
  rw [lastW_succ h]
  split <;> rfl
theorem curS_end {D : Dk} {at_ : Int} (h : mayE D at_ = 0) : curS D at_ D.Q.length = readS D at_ := by
  unfold curS readS
  rw [if_pos h, List.take_length]
  cases lastW D.Q at_ <;> rfl
theorem built0a : Try.prog.built 30 [] = some (scF sc0).toArray := by kernel_rfl
theorem rows_at {α : Type} {w : World} {A : Option Addr} {f : α → List Value} {k : Nat} {L : List α} (hk : ∀ x, (f x).length = k) (h : ReadAt w A f k L) {i : Nat} {x : α} (hi : L[i]? = some x) : ∃ b o, A = some ⟨b, o, none⟩ ∧ w.rangeAt b (o + i * k) (f x) := by
  obtain ⟨b, o, h1, h2⟩ := h (fun e => by rw [e] at hi; simp at hi)
  refine ⟨b, o, h1, fun j v hv => ?_⟩
  have hj : j < k := by have := (List.getElem?_eq_some_iff.1 hv).1; rwa [hk] at this
  rw [h2 i x hi j hj]; exact hv
set_option maxRecDepth 100000 in
set_option maxHeartbeats 4000000 in
theorem rread3_any {w : World} {F : Nat → Prop} {vS vQ : Value} {D : Dk} (at_ : Int) (h : RefAt w F vS vQ D) (hQ : D.Q.length ≤ 1000) :
    Calls Try.prog 31 #[rdV D vS vQ, .int .i64 at_] w (RdEnd w (readS D at_) (mayE D at_)) := by
  have HR := Lib.hid h
  obtain ⟨A, c, rfl, _⟩ := h.secs
  obtain ⟨A2, c2, rfl, _⟩ := h.que
  clear h
  have hz := zero_arr
  have HM := fun w' (hb : Below w.heap.size w w') => Lib.hid (rmay3_any (w := w') at_ (HR.out.below hb))
  unfold rdV at HM ⊢
  by_cases hE : mayE D at_ = 0
  · have hne : (mayE D at_ != 0) = false := by rw [hE]; rfl
    have hat : 0 ≤ at_ ∧ at_ < (D.S.length : Int) := by
      unfold mayE at hE
      by_cases h : at_ < 0 ∨ (D.S.length : Int) ≤ at_
      · rw [if_pos h] at hE; simp at hE
      · omega
    have HEND := Lib.hid (curS_end hE)
    obtain ⟨k, hk⟩ : ∃ k : Nat, at_ = (k : Int) := ⟨at_.toNat, by omega⟩
    subst hk
    have hgS : D.S[k]? = some (D.S.getD k sc0) := by rw [List.getD_eq_getElem?_getD, List.getElem?_eq_getElem (by omega)]; rfl
    have HC0 : Hid (curS D (k : Int) 0 = D.S.getD k sc0) := Lib.hid rfl
    obtain ⟨w0, hw0⟩ : ∃ w0, (w.alloc (.cells #[.slice A D.S.length c, .slice A2 D.Q.length c2, .bool D.dead, .int .i64 D.arm, .int .i64 D.deeds] 43)).alloc (.cells zArr 30) = w0 := ⟨_, rfl⟩
    have hb0 : Below w.heap.size w w0 := by rw [← hw0]; exact ((Below.refl w.heap.size w).alloc (Nat.le_refl _) _).alloc (by simp) _
    have hx4 : w0.heap[w.heap.size + 1]? = some (.cells zArr 30 (0, 0)) := by
      rw [← hw0]
      have := new_heap (w.alloc (.cells #[.slice A D.S.length c, .slice A2 D.Q.length c2, .bool D.dead, .int .i64 D.arm, .int .i64 D.deeds] 43)) (.cells zArr 30 (0, 0))
      rw [World.size_alloc] at this
      exact this
    have hx2 : w0.heap[w.heap.size]? = some (.cells #[.slice A D.S.length c, .slice A2 D.Q.length c2, .bool D.dead, .int .i64 D.arm, .int .i64 D.deeds] 43 (0, 0)) := by
      rw [← hw0]
      exact old_heap (new_heap w _) ((Below.refl _ _).alloc (Nat.le_refl _) _)
    have HMY := HM _ hb0
    rw [hE] at HMY
    clear HM
    have k0 : w0.cell? ⟨w.heap.size, 0, none⟩ = some (.slice A D.S.length c) := cell_row hx2 0
    have k1 : w0.cell? ⟨w.heap.size, 1, none⟩ = some (.slice A2 D.Q.length c2) := cell_row hx2 1
    have k2 : w0.cell? ⟨w.heap.size, 2, none⟩ = some (.bool D.dead) := cell_row hx2 2
    have k3 : w0.cell? ⟨w.heap.size, 3, none⟩ = some (.int .i64 D.arm) := cell_row hx2 3
    have k4 : w0.cell? ⟨w.heap.size, 4, none⟩ = some (.int .i64 D.deeds) := cell_row hx2 4
    go_enter Try.func31, Try.ntmps31
    go_upto_region 4 with (first
      | (go_at_call 40; (try rw [hw0]); go_must (refine HMY.out.mono ?_; rintro e w3 ⟨rfl, hb3⟩; have HX2 := Lib.hid (old_heap hx2 hb3); have HX4 := Lib.hid (old_heap hx4 hb3); have HB3 := Lib.hid (bnext hb0 hb3); clear hb3)))
    rw [hE]
    clear k0 k1 k2 k3 k4 hx2 hx4 hb0 hw0 HMY
    have hR3 := HR.out.below HB3.out
    obtain ⟨A', c', e1, _, _, _, hrd, _⟩ := hR3.secs
    simp only [Value.slice.injEq, true_and] at e1
    obtain ⟨rfl, rfl⟩ := e1
    obtain ⟨b, o, rfl, hrow⟩ := rows_at scF_len hrd hgS
    obtain ⟨cs, hcs, hcl, hone⟩ : ∃ cs : List Value, scF (D.S.getD k sc0) = cs ∧ cs.length = 128 ∧ ∀ v ∈ cs, v.oneCell' = true := ⟨_, rfl, scF_len _, scF_one _⟩
    rw [hcs] at hrow
    have k0 : w3.cell? ⟨w.heap.size, 0, none⟩ = some (.slice (some ⟨b, o, none⟩) D.S.length c) := cell_row HX2.out 0
    have hi0 : (0 : Int) ≤ (k : Int) := by omega
    have hi1 : (k : Int) < (D.S.length : Int) := by omega
    have HCS := Lib.hid hcs
    clear hR3 hrd hcs hgS
    go_upto_region 5 with (first
      | (refine wpList_load_mid rfl 30 (.tmp 19) rfl b (o + k * 128) rfl cs _ hrow Try.underlying30 rfl (by rw [hcl]; exact size_arr) ?_)
      | (refine wpList_store_row rfl 30 (.tmp 7) (.tmp 20) rfl w3.heap.size zArr cs.toArray 30 rfl rfl (heap_alloc_last _ _) (by simp only [List.size_toArray]; rw [hcl]; exact size_arr) (by simp [hcl, zArr_size]) (all_oneCell_toArray hone) ?_))
    rw [World.setRow_alloc_new]
    have hb4 : Below w3.heap.size w3 (w3.alloc (.cells cs.toArray 30)) := (Below.refl _ w3).alloc (Nat.le_refl _) _
    have hx7 := new_heap w3 (.cells cs.toArray 30 (0, 0))
    have hx2 := old_heap HX2.out hb4
    have hx4 := old_heap HX4.out hb4
    have hB4 := bnext HB3.out hb4
    have hlt7 : w.heap.size + 1 < w3.heap.size := (Array.getElem?_eq_some_iff.1 HX4.out).1
    have hsz4 : w3.heap.size < (w3.alloc (.cells cs.toArray 30)).heap.size := by simp
    clear hb4 HX2 HX4 HB3 k0 hrow
    revert hx7 hx2 hx4 hB4 hlt7 hsz4
    generalize w3.alloc (.cells cs.toArray 30) = w4
    generalize w3.heap.size = p7
    intro hx7 hx2 hx4 hB4 hlt7 hsz4
    rw [← HCS.out, ← HC0.out] at hx7
    have HX7 := Lib.hid hx7
    have HX2 := Lib.hid hx2
    have HX4 := Lib.hid hx4
    have HB4 := Lib.hid hB4
    clear hx7 hx2 hx4 hB4
    go_wp2
    go_loopw [8] (fun i wr => ∃ j : Nat, j ≤ D.Q.length ∧ i = .int .i64 (j : Int) ∧ Hid (wr.heap[p7]? = some (.cells (scF (curS D (k : Int) j)).toArray 30 (0, 0))) ∧ Hid (Keep (· = p7) w4 wr)) (fun i _ => (D.Q.length - intOf i).toNat)
    case atStart => exact ⟨0, by omega, by rfl, HX7, Lib.hid (Keep.refl _ _)⟩
    case round =>
      obtain ⟨j, hj, rfl, HX, HK⟩ := hrel
      have k1 : wr.cell? ⟨w.heap.size, 1, none⟩ = some (.slice A2 D.Q.length c2) := HK.out.cell (p := ⟨w.heap.size, 1, none⟩) (cell_row HX2.out 1) (by show ¬ w.heap.size = p7; omega)
      by_cases hlt : j < D.Q.length
      · obtain ⟨q, hq⟩ : ∃ q, D.Q[j]? = some q := ⟨_, List.getElem?_eq_getElem hlt⟩
        obtain ⟨A', c', e1, _, _, _, hrd, hbl⟩ := HR.out.que
        simp only [Value.slice.injEq, true_and] at e1
        obtain ⟨rfl, rfl⟩ := e1
        obtain ⟨b2, o2, rfl, hrow⟩ := rows_at wrF_len hrd hq
        have hb2 : b2 < w.heap.size := (hbl _ rfl).1
        have hrw : wr.rangeAt b2 (o2 + j * 129) (wrF q) := fun i v hv => HK.out.cell (p := ⟨b2, _, none⟩) ((HB4.out.cell (p := ⟨b2, _, none⟩) hb2).trans (hrow i v hv)) (by show ¬ b2 = p7; omega)
        have q0 : wr.cell? ⟨b2, o2 + j * 129, none⟩ = some (.int .i64 q.at_) := hrw 0 _ rfl
        have q1 : wr.rangeAt b2 (o2 + j * 129 + 1) (scF q.s) := fun i v hv => by
          have := hrw (1 + i) v (by unfold wrF; rw [Nat.add_comm, List.getElem?_cons_succ]; exact hv)
          rwa [← Nat.add_assoc] at this
        have HSU := Lib.hid (curS_succ (at_ := (k : Int)) hq)
        clear hrd hbl hrow hrw hq
        by_cases hqk : q.at_ = (k : Int)
        · rw [if_pos hqk] at HSU
          rw [hqk] at q0
          go_wp2_with (first
            | (refine wpList_load_mid rfl 30 (.tmp 40) rfl b2 (o2 + j * 129 + 1) rfl (scF q.s) _ q1 Try.underlying30 rfl (by rw [scF_len]; exact size_arr) ?_)
            | (refine wpList_store_row rfl 30 (.tmp 7) (.tmp 41) rfl p7 _ (scF q.s).toArray 30 rfl rfl HX.out (by simp only [List.size_toArray]; rw [scF_len]; exact size_arr) (by simp [scF_len]) (all_oneCell_toArray (scF_one _)) ?_))
          exact ⟨⟨j + 1, by omega, by go_num, Lib.hid (by rw [HSU.out]; exact setRow_heap wr p7 _ _ _ _ HX.out), Lib.hid (HK.out.trans ⟨rfl, rfl, rfl, by simp, fun i hi hf => setRow_other _ _ _ _ hf⟩)⟩, by simp [intOf]; omega⟩
        · rw [if_neg hqk] at HSU
          have hqf : (q.at_ == (k : Int)) = false := by simpa using hqk
          go_wp2
          exact ⟨⟨j + 1, by omega, by go_num, Lib.hid (by rw [HSU.out]; exact HX.out), HK⟩, by simp [intOf]; omega⟩
      · obtain rfl : j = D.Q.length := by omega
        rw [HEND.out] at HX
        have h4 : wr.heap[w.heap.size + 1]? = some (.cells zArr 30 (0, 0)) := HK.out.heap HX4.out (by show ¬ w.heap.size + 1 = p7; omega)
        go_wp2_with (first
          | (refine wpList_load_row rfl 30 (.tmp 7) rfl p7 rfl _ _ _ _ HX.out Try.underlying30 rfl (by simp only [List.size_toArray]; rw [scF_len]; exact size_arr) ?_)
          | (refine wpList_store_row rfl 30 (.tmp 4) (.tmp 42) rfl (w.heap.size + 1) zArr _ 30 rfl rfl h4 (by simp only [List.size_toArray]; rw [scF_len]; exact size_arr) (by simp [scF_len, zArr_size]) (all_oneCell_toArray (scF_one _)) ?_))
        have hh := setRow_heap wr (w.heap.size + 1) _ (scF (readS D (k : Int))).toArray _ _ h4
        have hrg : (wr.setRow (w.heap.size + 1) (scF (readS D (k : Int))).toArray).rangeAt (w.heap.size + 1) 0 (scF (readS D (k : Int))) := fun j v hv => by rw [cell_row hh, Nat.zero_add]; simpa using hv
        have hld := run_loadVar_mid _ (w.heap.size + 1) 0 30 (scF (readS D (k : Int))) _ hrg Try.underlying30 rfl (by rw [scF_len]; exact size_arr)
        have hBr : Below w.heap.size w wr := HB4.out.trans (HK.out.below (fun i e => by subst e; omega) (by omega))
        exact bodyPost_ret (v := .tuple #[.agg (scF (readS D (k : Int))).toArray, .int .i64 0]) (results_cell2 Try.results31 rfl rfl hld) rfl ⟨by rw [hE]; rfl, hBr.trans ⟨rfl, rfl, rfl, by simp, fun i hi => setRow_other _ _ _ _ (by omega)⟩⟩
  · have hne : (mayE D at_ != 0) = true := by simpa using hE
    have hS : readS D at_ = sc0 := by unfold readS; rw [if_neg hE]
    rw [hS]
    generalize mayE D at_ = E at *
    have hb0 := ((Below.refl w.heap.size w).alloc (Nat.le_refl _) (.cells #[.slice A D.S.length c, .slice A2 D.Q.length c2, .bool D.dead, .int .i64 D.arm, .int .i64 D.deeds] 43)).alloc (by simp) (.cells zArr 30)
    have HMY := HM _ hb0
    have hs1 : (w.alloc (.cells #[.slice A D.S.length c, .slice A2 D.Q.length c2, .bool D.dead, .int .i64 D.arm, .int .i64 D.deeds] 43)).heap.size = w.heap.size + 1 := by simp
    have hx := new_heap (w.alloc (.cells #[.slice A D.S.length c, .slice A2 D.Q.length c2, .bool D.dead, .int .i64 D.arm, .int .i64 D.deeds] 43)) (.cells zArr 30 (0, 0))
    rw [hs1] at hx
    have HX := Lib.hid hx
    have HB := Lib.hid hb0
    clear HM hb0 hx hs1
    go_enter Try.func31, Try.ntmps31
    go_wp2_with (first
      | (go_at_call 40; go_must (refine HMY.out.mono ?_; rintro e w3 ⟨rfl, hb3⟩; have hx3 := old_heap HX.out hb3; have HB3 := Lib.hid (bnext HB.out hb3); clear hb3))
      | (refine wpList_build_at rfl 30 _ rfl [] (by simp) _ built0a ?_)
      | (refine wpList_store_row rfl 30 (.tmp 4) (.tmp 14) rfl (w.heap.size + 1) zArr _ 30 rfl rfl hx3 (by simp only [List.size_toArray]; rw [scF_len]; exact size_arr) (by simp [scF_len, zArr_size]) (all_oneCell_toArray (scF_one _)) ?_))
    have hh := setRow_heap w3 (w.heap.size + 1) _ (scF sc0).toArray _ _ hx3
    have hrg : (w3.setRow (w.heap.size + 1) (scF sc0).toArray).rangeAt (w.heap.size + 1) 0 (scF sc0) := fun j v hv => by rw [cell_row hh, Nat.zero_add]; simpa using hv
    have hld := run_loadVar_mid _ (w.heap.size + 1) 0 30 (scF sc0) _ hrg Try.underlying30 rfl (by rw [scF_len]; exact size_arr)
    refine bodyPost_ret (v := .tuple #[.agg (scF sc0).toArray, .int .i64 E]) (results_cell2 Try.results31 rfl rfl hld) rfl ⟨rfl, ?_⟩
    refine HB3.out.trans ⟨rfl, rfl, rfl, by rw [World.setRow]; simp, fun k hk => ?_⟩
    exact setRow_other _ _ _ _ (by omega)
end Go.Proofs.Ytiehfaiadhhndaa
