/-
  Disk: Crash.
-/
import Derived.Test.YtiehfaiadhhndaaDskH
import Derived.Test.YtiehfaiadhhndaaOpen
namespace Go.Proofs.Ytiehfaiadhhndaa
open Go.RowKit
set_option linter.unusedVariables false
set_option linter.unusedSimpArgs false
def boF (b : Bool) : List Value := [.bool b]
theorem boF_len (b : Bool) : (boF b).length = 1 := rfl
def keptN (Q : List Wr) (K : List Bool) : Nat → List Wr
  | 0 => []
  | j + 1 => if K.getD j false then keptN Q K j ++ [Q.getD j wr0] else keptN Q K j
theorem keptN_le (Q : List Wr) (K : List Bool) (j : Nat) : (keptN Q K j).length ≤ j := by
  induction j with
  | zero => simp [keptN]
  | succ j ih =>
    unfold keptN
    split
    · rw [List.length_append, List.length_singleton]; omega
    · omega
theorem keptN_mem {Q : List Wr} {K : List Bool} : ∀ {j : Nat}, j ≤ Q.length → ∀ q ∈ keptN Q K j, q ∈ Q := by
  intro j
  induction j with
  | zero => intro _ q h; simp [keptN] at h
  | succ j ih =>
    intro hj q h
    unfold keptN at h
    split at h
    · rcases List.mem_append.1 h with h | h
      · exact ih (by omega) q h
      · simp only [List.mem_singleton] at h
        subst h
        rw [List.getD_eq_getElem?_getD, List.getElem?_eq_getElem (by omega)]
        exact List.getElem_mem _
    · exact ih (by omega) q h
def crashD (D : Dk) (K : List Bool) : Dk := { S := layS D.S (keptN D.Q K D.Q.length), Q := [], dead := false, arm := -1, deeds := D.deeds, cap := D.cap }
theorem rd_row {w : World} {g k : Nat} {t : TypeId} {cs : List Value} (h : w.heap[g]? = some (.cells cs.toArray t (0, 0))) (hk : cs.length = k) (c : Nat) : Rd w (.slice (some ⟨g, 0, none⟩) 1 c) k 1 cs :=
  ⟨by rw [hk, Nat.one_mul], .inr ⟨_, c, rfl, fun j u hu => by rw [add_at, cell_row h, Nat.zero_add]; simpa using hu⟩⟩
theorem wpList_buildSlice {P : Program} {ops : Array Oper} {rest : List Oper} {o : Oper} {a : Act} {w : World} {Q : Exit → Act → World → Prop} (hgd : o.guard = none) (t : TypeId) (x : Operand) (ho : o.op = .buildSlice t 1 #[(0, x)])
    (e : TypeId) (z : Array Value) (ws : List Value) (n bytes : Nat) (ht : P.underlying t = some (.slice e)) (hinfo : (P.info? e).map (fun i => (i.zero, i.size, i.bytes)) = some (some (.agg z), n, bytes)) (hx : a.eval x = .agg ws.toArray) (hzs : z.size = n) (hl : ws.length = n) (h0 : 0 < n) (h24 : n ≤ 16777216)
    (h : wpList P ops Q rest (a.put o.dst (.slice (some ⟨w.heap.size, 0, none⟩) 1 1)) (w.alloc (.cells ws.toArray e))) : wpList P ops Q (o :: rest) a w := by
  refine wpList_plain hgd fun K hK => ?_
  obtain ⟨i, hi, hz, hsi, hbi⟩ := info_parts hinfo
  have hr := run_buildSlice_one w t e i z ws n ht hi hz hsi hzs hl h0 h24
  unfold Oper.wp execOp
  simp only [ho, Sem.run_bind, List.map_toArray, List.map_cons, List.map_nil, hx, hr, Result.andThen_ok]
  exact hK _ _ h
section
variable {w w' : World} {base p gS : Nat} {vq : Value} {D : Dk}
set_option maxRecDepth 100000 in
set_option maxHeartbeats 4000000 in
theorem dcrash_any (h : DkAt w base p gS vq D) {m : Nat} (hm : m ≤ 1000) (ho : DOk D m) (A : Option Addr) (c : Nat) (K : List Bool) (hK : ReadAt w A boF 1 K) :
    Calls Try.prog 22 #[.pointer (some ⟨p, 0, none⟩), .slice A K.length c] w (DTo w base p gS vq (crashD D K) (.tuple #[])) := by
  obtain ⟨c0, c1, c2, c3, c4⟩ := h.cells
  have HS := Lib.hid (own_src h.que (g := gS) (fun k hk => (h.qp k hk).2))
  obtain ⟨sq, cq, hvq⟩ := own_slice1 h.que
  subst hvq
  have HD := Lib.hid h
  have HK := Lib.hid hK
  have hbs : base ≤ w.heap.size := by have := h.bp; have := h.lt.1; omega
  have hgl := h.lt.2.1
  have hQl : D.Q.length ≤ 1000 := by have := ho.len; omega
  obtain ⟨L, hL⟩ : ∃ L, D.Q = L := ⟨_, rfl⟩
  have HL := Lib.hid hL
  rw [hL] at HS hQl c3
  rw [hL]
  clear h hK hL
  go_enter Try.func22, Try.ntmps22
  go_wp2
  go_loopw [4, 12] (fun v i wr => ∃ j : Nat, j ≤ L.length ∧ i = .int .i64 (j : Int) ∧ Hid (wr.ownsRow w.heap.size 71 129 v (keptN L K j).length (rowsOf wrF (keptN L K j))) ∧ Hid (Below w.heap.size w wr)) (fun _ i _ => (L.length - intOf i).toNat)
  case atStart => exact ⟨0, by omega, by rfl, Lib.hid (World.ownsRow_nil _ _ _ _), Lib.hid (Below.refl _ _)⟩
  case round =>
    obtain ⟨j, hj, rfl, HO, HB⟩ := hrel
    obtain ⟨sk, ck, rfl⟩ := own_slice1 HO.out
    by_cases hlt : j < L.length
    · obtain ⟨q, hq⟩ : ∃ q, L[j]? = some q := ⟨_, List.getElem?_eq_getElem hlt⟩
      obtain ⟨b, o, c', e1, hbg, hbl, hrow⟩ : ∃ b o c', (.slice sq L.length cq : Value) = .slice (some ⟨b, o, none⟩) L.length c' ∧ b ≠ gS ∧ b < w.heap.size ∧ w.rangeAt b (o + j * 129) (wrF q) := by
        rcases HS.out with ⟨_, e⟩ | ⟨b, o, c', e1, e2, e3, e4⟩
        · rw [e] at hlt; exact absurd hlt (Nat.not_lt_zero _)
        · exact ⟨b, o, c', e1, e2, e3, e4 j q hq⟩
      simp only [Value.slice.injEq, true_and] at e1
      obtain ⟨eA, rfl⟩ := e1
      subst eA
      have hrw : wr.rangeAt b (o + j * 129) (wrF q) := fun i v hv => (HB.out.cell (p := ⟨b, _, none⟩) hbl).trans (hrow i v hv)
      have hzw := zero_wr
      obtain ⟨z, hzc, hzl⟩ : ∃ z : List Value, wrF wr0 = z ∧ z.length = 129 := ⟨_, rfl, wrF_len _⟩
      obtain ⟨ws, hws, hwl, hw1⟩ : ∃ ws : List Value, wrF q = ws ∧ ws.length = 129 ∧ ∀ v ∈ ws, v.oneCell' = true := ⟨_, rfl, wrF_len _, wrF_one _⟩
      rw [hzc] at hzw
      have HWS := Lib.hid hws
      have hD : L.getD j wr0 = q := by rw [List.getD_eq_getElem?_getD, hq]; rfl
      have hkn : keptN L K (j + 1) = if K.getD j false then keptN L K j ++ [q] else keptN L K j := by rw [← hD]; rfl
      have HKN := Lib.hid hkn
      have hkle := keptN_le L K j
      rw [hws] at hrw
      clear hrow hq hws hzc hD hkn
      go_upto_region 4 with (first
        | (refine wpList_load_mid rfl 71 (.tmp 15) rfl b (o + j * 129) rfl ws _ hrw Try.underlying71 rfl (by rw [hwl]; exact size_wr) ?_)
        | (refine wpList_store_row rfl 71 (.tmp 6) (.tmp 16) rfl wr.heap.size z.toArray ws.toArray 71 rfl rfl (heap_alloc_last _ _) (by simp only [List.size_toArray]; rw [hwl]; exact size_wr) (by simp [hwl, hzl]) (all_oneCell_toArray hw1) ?_))
      rw [World.setRow_alloc_new]
      have hx5 := new_heap wr (.cells ws.toArray 71 (0, 0))
      have hsz := HB.out.size
      have hba := HB.out.alloc hsz (.cells ws.toArray 71)
      have hoa := HO.out.alloc (.cells ws.toArray 71)
      revert hba hoa hx5
      generalize wr.alloc (.cells ws.toArray 71) = w5
      generalize wr.heap.size = p5
      intro hx5 hba hoa
      have HBA := Lib.hid hba
      have HOA := Lib.hid hoa
      have hbA : Below w5.heap.size w5 (w5.alloc (.cells ws.toArray 71)) := (Below.refl _ w5).alloc (Nat.le_refl _) _
      have HRD := Lib.hid (rd_row (k := 129) (new_heap w5 (.cells ws.toArray 71 (0, 0))) hwl 1)
      have HOB := Lib.hid (hoa.alloc (.cells ws.toArray 71))
      have HBB := Lib.hid (hba.alloc hba.size (.cells ws.toArray 71))
      have hszb := HBA.out.size
      clear hba hoa HO hrw hbA
      by_cases hjk : j < K.length
      · obtain ⟨kb, ko, hkA, hkc⟩ := HK.out (fun e => by rw [e] at hjk; exact absurd hjk (Nat.not_lt_zero _))
        obtain ⟨x, hx⟩ : ∃ x, K[j]? = some x := ⟨_, List.getElem?_eq_getElem hjk⟩
        have hkx : K.getD j false = x := by rw [List.getD_eq_getElem?_getD, hx]; rfl
        have hck := hkc j x hx 0 (by decide)
        rw [Nat.mul_one, Nat.add_zero] at hck
        have hck5 : w5.cell? ⟨kb, ko + j, none⟩ = some (.bool x) := (HBA.out.cell (p := ⟨kb, ko + j, none⟩) (World.block_lt_of_cell? w _ hck)).trans hck
        rw [hkx] at HKN
        subst hkA
        have HKC := Lib.hid hkc
        clear hkc hck hx hkx
        have hji : (j : Int) < (K.length : Int) := by omega
        cases x with
        | false =>
          rw [if_neg (by simp)] at HKN
          go_wp2
          refine ⟨⟨j + 1, by omega, by go_num, Lib.hid ?_, HBA⟩, by simp [intOf]; omega⟩
          rw [HKN.out]; exact HOA.out
        | true =>
          rw [if_pos rfl] at HKN
          go_wp2_with (first
            | (refine wpList_load_row rfl 71 (.tmp 6) rfl p5 rfl _ _ _ _ hx5 Try.underlying71 rfl (by simp only [List.size_toArray]; rw [hwl]; exact size_wr) ?_)
            | (refine wpList_buildSlice rfl 67 (.tmp 28) rfl 71 (wrF wr0).toArray ws 129 136 Try.underlying67 info_wr3 rfl (by simp [wrF_len]) hwl (by decide) (by decide) ?_)
            | (at_builtin; refine wpList_append_rd _ rfl _ _ 67 rfl w.heap.size 71 (.agg (wrF wr0).toArray) 129 136 Try.underlying67 info_wr3 (by simp [Value.cells, wrF_len]) (by decide) _ _ _ rfl HOB.out _ 1 ws rfl HRD.out hw1 ?c2 (by decide) ?c3 ?_; (case c2 => omega); (case c3 => simp; omega); intro v' w1 hown1 hbel1 hg1; have HO1 := Lib.hid hown1; have HB1 := Lib.hid (HBB.out.trans hbel1); clear hown1 hbel1 hg1))
          refine ⟨⟨j + 1, by omega, by go_num, Lib.hid ?_, HB1⟩, by simp [intOf]; omega⟩
          rw [HKN.out, List.length_append, rowsOf_snoc, HWS.out]
          exact HO1.out
      · have hkx : K.getD j false = false := by rw [List.getD_eq_getElem?_getD, List.getElem?_eq_none (by omega)]; rfl
        rw [hkx, if_neg (by simp)] at HKN
        have hji : ¬ ((j : Int) < (K.length : Int)) := by omega
        go_wp2
        refine ⟨⟨j + 1, by omega, by go_num, Lib.hid ?_, HBA⟩, by simp [intOf]; omega⟩
        rw [HKN.out]; exact HOA.out
    · obtain rfl : j = L.length := by omega
      have hdr := HD.out.below HB.out
      have hne : ∀ k, Value.ownBlock (.slice sk (keptN L K L.length).length ck) = some k → k ≠ gS := fun k hk => by
        have := (HO.out.lt k hk).1
        omega
      have hsrc := own_src HO.out hne
      have hkl : (keptN L K L.length).length ≤ 1000 := by have := keptN_le L K L.length; omega
      have HLY := Lib.hid (dlay_any (keptN L K L.length) (.slice sk (keptN L K L.length).length ck) hdr hsrc hkl (fun q hq => ho.at_ q (by rw [HL.out]; exact keptN_mem (Nat.le_refl _) q hq)))
      clear hdr hsrc hne
      go_upto_region 8 with (first
        | (go_at_call 28; go_must (refine HLY.out.mono ?_; rintro e w2 ⟨rfl, hd2, hk2⟩; have HD2 := Lib.hid hd2; have HK2 := Lib.hid hk2; clear hd2 hk2)))
      rename_i w2
      clear c0 c1 c2 c3 c4
      obtain ⟨d0, d1, d2, d3, d4⟩ := HD2.out.cells
      have e0 := free_row HD2.out.head 0
      have e1 := free_row HD2.out.head 1
      have e3 := free_row HD2.out.head 3
      have hs1 := HD2.out.set 3 (.slice none 0 0) { D with S := layS D.S (keptN L K L.length), Q := [] } (.slice none 0 0) rfl rfl (.inr ⟨rfl, rfl⟩)
      have hs2 := hs1.set 0 (.bool false) { D with S := layS D.S (keptN L K L.length), Q := [], dead := false } (.slice none 0 0) rfl rfl (.inl ⟨rfl, rfl⟩)
      have hs3 := hs2.set 1 (.int .i64 (-1)) { S := layS D.S (keptN L K L.length), Q := [], dead := false, arm := -1, deeds := D.deeds, cap := D.cap } (.slice none 0 0) rfl rfl (.inl ⟨rfl, rfl⟩)
      have HF := Lib.hid hs3
      clear hs1 hs2 hs3
      go_wp2
      go_end0
      refine ⟨rfl, .slice none 0 0, ?_, ?_, fun k hk => by simp [Value.ownBlock] at hk⟩
      · unfold crashD
        rw [HL.out]; exact HF.out
      · exact ((((Keep.of_below HB.out).trans (Keep.mono HK2.out (fun k e => .inr (.inl e)))).setCell p 3 _ (.inl rfl)).setCell p 0 _ (.inl rfl)).setCell p 1 _ (.inl rfl)
end
end Go.Proofs.Ytiehfaiadhhndaa
