/-
  ImapGives: the walk.
-/
import Derived.Test.YtakoajdcdoigdaaLaw10b
namespace Go.Proofs.Ytakoajdcdoigdaa
open Go.RowKit Go.Maps
attribute [local go_sem] maxI_two minI_two
set_option linter.unusedVariables false
set_option linter.unusedSimpArgs false
/-- An act. -/
structure Ac where
  kind : Int
  num : Int
  n : Int
  slot : Sl
def acF (a : Ac) : List Value := [.int .i64 a.kind, .int .i64 a.num, .int .i64 a.n, .int .i64 a.slot.at_, .int .u32 (a.slot.ver : Int), .int .i64 a.slot.links, .int .i64 a.slot.kind]
theorem acF_len (a : Ac) : (acF a).length = 7 := rfl
def I64 (x : Int) : Prop := -9223372036854775808 ≤ x ∧ x ≤ 9223372036854775807
/-- The cells of an act in a slice. -/
theorem acts_cell {w : World} {b o : Nat} {L : List Ac} {i : Nat} {x : Ac} (h : ∀ i x, L[i]? = some x → ∀ j, j < 7 → w.cell? ⟨b, o + i * 7 + j, none⟩ = (acF x)[j]?) (hi : L[i]? = some x) :
    w.cell? ⟨b, o + i * 7, none⟩ = some (.int .i64 x.kind) ∧ w.cell? ⟨b, o + i * 7 + 1, none⟩ = some (.int .i64 x.num) ∧ w.cell? ⟨b, o + i * 7 + 2, none⟩ = some (.int .i64 x.n) ∧ w.cell? ⟨b, o + i * 7 + 3, none⟩ = some (.int .i64 x.slot.at_) ∧
    w.cell? ⟨b, o + i * 7 + 4, none⟩ = some (.int .u32 (x.slot.ver : Int)) ∧ w.cell? ⟨b, o + i * 7 + 5, none⟩ = some (.int .i64 x.slot.links) ∧ w.cell? ⟨b, o + i * 7 + 6, none⟩ = some (.int .i64 x.slot.kind) :=
  ⟨h i x hi 0 (by decide), h i x hi 1 (by decide), h i x hi 2 (by decide), h i x hi 3 (by decide), h i x hi 4 (by decide), h i x hi 5 (by decide), h i x hi 6 (by decide)⟩
def AcAt (w : World) (b : Nat) (x : Ac) : Prop := w.cell? ⟨b, 0, none⟩ = some (.int .i64 x.kind) ∧ w.cell? ⟨b, 1, none⟩ = some (.int .i64 x.num) ∧ w.cell? ⟨b, 2, none⟩ = some (.int .i64 x.n)
theorem AcAt.keep {F : Nat → Prop} {w w' : World} {b : Nat} {x : Ac} (h : AcAt w b x) (hk : Keep F w w') (hF : ¬ F b) : AcAt w' b x := ⟨hk.cell h.1 hF, hk.cell h.2.1 hF, hk.cell h.2.2 hF⟩
/-- All that the law's loop keeps. -/
structure GI (w wr : World) (p g bh bl N m : Nat) (L : List Sl) (Dh Dl : DataW Unit) : Prop where
  map : MapAt wr p g N L
  len : L.length = N
  ver : ∀ s ∈ L, s.ver < 4294967296
  hh : HMap wr bh m Dh
  hl : HMap wr bl m Dl
  okh : OkH Dh L
  okl : OkL Dl L
  below : Below w.heap.size w wr
  g0 : w.heap.size ≤ g
  h0 : w.heap.size ≤ bh
  l0 : w.heap.size ≤ bl
  gh : g ≠ bh
  gl : g ≠ bl
  ph : p ≠ bh
  pl : p ≠ bl
  hlne : bh ≠ bl
section
variable {w wr w' w3 w4 : World} {p g bh bl N m : Nat} {L : List Sl} {Dh Dl : DataW Unit}
theorem GI.step (h : GI w wr p g bh bl N m L Dh Dl) (hb : Below wr.heap.size wr w') : GI w w' p g bh bl N m L Dh Dl :=
  ⟨h.map.below hb, h.len, h.ver, h.hh.below hb, h.hl.below hb, h.okh, h.okl, bnext h.below hb, h.g0, h.h0, h.l0, h.gh, h.gl, h.ph, h.pl, h.hlne⟩
theorem hmap_mono {b n n' : Nat} {D : DataW Unit} (h : HMap w b n D) (hn : n ≤ n') : HMap w b n' D := World.ownsMap.mono h hn
theorem GI.more (h : GI w wr p g bh bl N m L Dh Dl) : GI w wr p g bh bl N (m + 1) L Dh Dl :=
  ⟨h.map, h.len, h.ver, hmap_mono h.hh (by omega), hmap_mono h.hl (by omega), h.okh, h.okl, h.below, h.g0, h.h0, h.l0, h.gh, h.gl, h.ph, h.pl, h.hlne⟩
theorem keep_grown' {b : Nat} (h : w.grownBy w' (some b)) : Keep (· = b) w w' := ⟨h.os, h.tape, h.output, h.size, fun k hk hb => h.block k hk (fun e => hb (by cases e; rfl))⟩
theorem GI.nodel (h : GI w wr p g bh bl N m L Dh Dl) (x : Int) (hx : usedAt L x = false) (hD : HMap w4 bh m (Dh.del (KL x))) (hk : Keep (· = bh) wr w4) : GI w w4 p g bh bl N m L Dh Dl := by
  have hd : Dh.del (KL x) = Dh := del_of_not_has (by rw [h.okh.has]; exact hx)
  rw [hd] at hD
  exact ⟨h.map.keep hk h.ph h.gh, h.len, h.ver, hD, h.hl.keep hk (fun e => h.hlne e.symm), h.okh, h.okl, h.below.trans (hk.below (fun k e => by subst e; exact h.h0) h.below.size), h.g0, h.h0, h.l0, h.gh, h.gl, h.ph, h.pl, h.hlne⟩
theorem GI.release (h : GI w wr p g bh bl N m L Dh Dl) (i : Nat) (s : Sl) (hs : L[i]? = some s) (hk0 : s.kind ≠ 0) (hm : MapAt w3 p g N (L.set i ⟨0, s.ver, 0, 0⟩)) (hk1 : Keep (· = g) wr w3)
    (hD : HMap w4 bh m (Dh.del (KL ((i : Int) + 1)))) (hk : Keep (· = bh) w3 w4) : GI w w4 p g bh bl N m (L.set i ⟨0, s.ver, 0, 0⟩) (Dh.del (KL ((i : Int) + 1))) Dl := by
  have hb1 : Below w.heap.size w w3 := h.below.trans (hk1.below (fun k e => by subst e; exact h.g0) h.below.size)
  refine ⟨hm.keep hk h.ph h.gh, by rw [List.length_set]; exact h.len, fun x hx => ?_, hD, (h.hl.keep hk1 (fun e => h.gl e.symm)).keep hk (fun e => h.hlne e.symm), okH_free h.okh hs hk0, okL_free h.okl hs, hb1.trans (hk.below (fun k e => by subst e; exact h.h0) hb1.size), h.g0, h.h0, h.l0, h.gh, h.gl, h.ph, h.pl, h.hlne⟩
  rcases List.mem_or_eq_of_mem_set hx with hx | rfl
  · exact h.ver x hx
  · exact h.ver s (List.mem_of_getElem? hs)
theorem GI.give {w5 : World} (h : GI w wr p g bh bl N m L Dh Dl) (i : Nat) (s : Sl) (hs : L[i]? = some s) (hk0 : s.kind = 0) (v : Nat) (hv : v < 4294967296) (kind : Int) (hkind : kind ≠ 0) (d : DataW Unit) (hm : MapAt w3 p g N (L.set i ⟨0, v, 0, kind⟩)) (hk1 : Keep (· = g) wr w3)
    (hD : HMap w4 bh (m + 1) (Dh.put (KL ((i : Int) + 1)) d)) (hk2 : Keep (· = bh) w3 w4) (hE : HMap w5 bl (m + 1) (Dl.put (KL ((i : Int) + 1)) (U32 v))) (hk3 : Keep (· = bl) w4 w5) :
    GI w w5 p g bh bl N (m + 1) (L.set i ⟨0, v, 0, kind⟩) (Dh.put (KL ((i : Int) + 1)) d) (Dl.put (KL ((i : Int) + 1)) (U32 v)) := by
  have hb1 : Below w.heap.size w w3 := h.below.trans (hk1.below (fun k e => by subst e; exact h.g0) h.below.size)
  have hb2 : Below w.heap.size w w4 := hb1.trans (hk2.below (fun k e => by subst e; exact h.h0) hb1.size)
  refine ⟨(hm.keep hk2 h.ph h.gh).keep hk3 h.pl h.gl, by rw [List.length_set]; exact h.len, fun x hx => ?_, hD.keep hk3 h.hlne, hE, okH_give h.okh hs hk0 v kind hkind d, okL_give h.okl hs v kind, hb2.trans (hk3.below (fun k e => by subst e; exact h.l0) hb2.size), h.g0, h.h0, h.l0, h.gh, h.gl, h.ph, h.pl, h.hlne⟩
  rcases List.mem_or_eq_of_mem_set hx with hx | rfl
  · exact h.ver x hx
  · exact hv
end
theorem land1 (n : Int) : (bits BinOp.and IntKind.i64 n 1 = 0 ∨ bits BinOp.and IntKind.i64 n 1 = 1) := by
  have e : bits BinOp.and IntKind.i64 n 1 = IntKind.i64.wrap (((n % 18446744073709551616).toNat &&& 1 : Nat) : Int) := rfl
  rw [e, Nat.and_one_is_mod]
  rcases Nat.mod_two_eq_zero_or_one (n % 18446744073709551616).toNat with h | h <;> rw [h] <;> simp [IntKind.wrap, IntKind.bits, IntKind.signed]
theorem land1k (n : Int) : wrap64 (1 + bits BinOp.and IntKind.i64 n 1) = 1 ∨ wrap64 (1 + bits BinOp.and IntKind.i64 n 1) = 2 := by
  rcases land1 n with h | h <;> rw [h]
  · exact .inl (by simp [wrap64])
  · exact .inr (by simp [wrap64])
set_option maxHeartbeats 8000000 in
set_option maxRecDepth 10000 in
theorem imapGives_walk (n : Int) (A : Option Addr) (c : Nat) (B : List Ac) (w : World) (hB : B.length ≤ 140737488351232) (hw : ∀ x ∈ B, I64 x.num) (hv : ReadAt w A acF 7 B) :
    Calls Try.prog 3 #[.int .i64 n, .slice A B.length c] w (RetT w true) := by
  have HV := Lib.hid hv
  have HW := Lib.hid hw
  clear hv hw
  obtain ⟨N, hN1, hN2, hN3⟩ : ∃ N : Nat, mxI 1 (mnI n 20) = (N : Int) ∧ 1 ≤ N ∧ N ≤ 20 := ⟨(mxI 1 (mnI n 20)).toNat, by unfold mxI mnI; split <;> split <;> omega, by unfold mxI mnI; split <;> split <;> omega, by unfold mxI mnI; split <;> split <;> omega⟩
  have hNN : newN (N : Int) = N := by unfold newN mxI mnI; split <;> split <;> omega
  have HN := fun w' => Lib.hid (inew_any (N : Int) w')
  rw [hNN] at HN
  unfold NewTo at HN
  have hmm := @run_makeMap Try.prog
  clear hNN
  go_enter Try.func3, Try.ntmps3
  go_upto_region 4 with (first
    | (go_at_call 6; go_must (refine (awake10 _).mono ?_; rintro e w0 ⟨rfl, hb⟩; have HB0 := Lib.hid hb; clear hb)))
  go_upto_region 7 with (first
    | (go_at_call 7; go_must (refine (HN w0).out.mono ?_; rintro e w1 ⟨p, g, rfl, hp, hg, hm, hb⟩; have HM := Lib.hid hm; have HB := Lib.hid (bnext HB0.out hb); have HPG : Hid (w.heap.size ≤ p ∧ w.heap.size ≤ g) := Lib.hid ⟨Nat.le_trans HB0.out.size hp, Nat.le_trans HB0.out.size hg⟩; clear hm hb hp hg)))
  have ha1 := (Below.refl w1.heap.size w1).alloc (Nat.le_refl _) (.map #[] 0)
  have ha2 := (Below.refl (w1.alloc (.map #[] 0)).heap.size (w1.alloc (.map #[] 0))).alloc (Nat.le_refl _) (.map #[] 0)
  have hG : GI w ((w1.alloc (.map #[] 0)).alloc (.map #[] 0)) p g w1.heap.size (w1.heap.size + 1) N 0 (List.replicate N sl0) (.map []) (.map []) := by
    obtain ⟨hp, hg⟩ := HPG.out
    obtain ⟨l1, l2⟩ := HM.out.lt
    have hsz := HB.out.size
    refine ⟨(HM.out.below ha1).below ha2, by simp, fun s hs => ?_, HMap.below (World.ownsMap_made w1 Try.prog 3 _) ha2, ?_, okH_start N, okL_start N, (bnext HB.out ha1).trans (ha2.mono (by simp; omega)), hg, hsz, by omega, by omega, by omega, by omega, by omega, by omega⟩
    · rw [(List.mem_replicate.1 hs).2]; show 0 < 4294967296; omega
    · have := World.ownsMap_made (H := Unit) (w1.alloc (.map #[] 0)) Try.prog 3 (plainElem Try.prog 27)
      rw [World.size_alloc] at this
      exact this
  have hlt : w.heap.size ≤ w1.heap.size := HB.out.size
  clear ha1 ha2 HM HB HB0 HN
  revert hG hlt
  generalize (w1.alloc (.map #[] 0)).alloc (.map #[] 0) = w2
  generalize w1.heap.size = bh
  generalize bh + 1 = bl
  intro hG hlt
  have HG := Lib.hid hG
  clear hG hlt hmm
  go_wp2
  go_loopw [8] (fun iv wr => ∃ (i : Nat) (L : List Sl) (Dh Dl : DataW Unit), i ≤ 60 ∧ i ≤ B.length ∧ iv = .int .i64 (i : Int) ∧ Hid (GI w wr p g bh bl N i L Dh Dl)) (fun iv _ => (60 - intOf iv).toNat)
  case atStart => exact ⟨0, _, _, _, by omega, by omega, by rfl, HG⟩
  case round =>
    obtain ⟨i, L, Dh, Dl, hi60, hiB, rfl, HG⟩ := hrel
    by_cases hlt : i < B.length ∧ i < 60
    · obtain ⟨hi1, hi2⟩ := hlt
      obtain ⟨x, hx⟩ : ∃ x, B[i]? = some x := ⟨_, List.getElem?_eq_getElem hi1⟩
      have hx64 := HW.out x (List.mem_of_getElem? hx)
      obtain ⟨b, o, hA, hcell⟩ := HV.out (fun e => by rw [e] at hi1; exact absurd hi1 (Nat.not_lt_zero _))
      subst hA
      obtain ⟨q0, q1, q2, q3, q4, q5, q6⟩ := acts_cell (w := wr) (fun i x hx j hj => by
        have hc := hcell i x hx j hj
        rw [List.getElem?_eq_getElem (by rw [acF_len]; exact hj)] at hc ⊢
        exact (HG.out.below.cell (p := ⟨b, _, none⟩) (World.block_lt_of_cell? w _ hc)).trans hc) hx
      have HX64 := Lib.hid hx64
      clear hcell hx hx64
      go_upto_region 11 with fail
      clear q0 q1 q2 q3 q4 q5 q6
      have hbox := (Below.refl wr.heap.size wr).alloc (Nat.le_refl _) (.cells #[.int .i64 x.kind, .int .i64 x.num, .int .i64 x.n, .int .i64 x.slot.at_, .int .u32 (x.slot.ver : Int), .int .i64 x.slot.links, .int .i64 x.slot.kind] 31 (0, 0))
      have hx9 := new_heap wr (.cells #[.int .i64 x.kind, .int .i64 x.num, .int .i64 x.n, .int .i64 x.slot.at_, .int .u32 (x.slot.ver : Int), .int .i64 x.slot.links, .int .i64 x.slot.kind] 31 (0, 0))
      have hA9 : AcAt (wr.alloc (.cells #[.int .i64 x.kind, .int .i64 x.num, .int .i64 x.n, .int .i64 x.slot.at_, .int .u32 (x.slot.ver : Int), .int .i64 x.slot.links, .int .i64 x.slot.kind] 31 (0, 0))) wr.heap.size x := ⟨cell_row hx9 0, cell_row hx9 1, cell_row hx9 2⟩
      have hG9 := HG.out.step hbox
      have hp9 : g < wr.heap.size ∧ bh < wr.heap.size ∧ bl < wr.heap.size := ⟨HG.out.map.lt.2, HG.out.hh.lt, HG.out.hl.lt⟩
      clear hbox hx9 HG
      revert hA9 hG9 hp9
      generalize wr.alloc (.cells #[.int .i64 x.kind, .int .i64 x.num, .int .i64 x.n, .int .i64 x.slot.at_, .int .u32 (x.slot.ver : Int), .int .i64 x.slot.links, .int .i64 x.slot.kind] 31 (0, 0)) = w3
      generalize wr.heap.size = p9
      intro hA9 hG9 hp9
      have HG := Lib.hid hG9
      have HA9 := Lib.hid hA9
      have HP9 := Lib.hid hp9
      clear hG9 hp9
      obtain ⟨q0, q1, q2⟩ := hA9
      have hL20 : L.length ≤ 200 := by rw [HG.out.len]; omega
      by_cases hk1 : x.kind = 1
      · have hk1' : (x.kind == 1) = true := by simpa using hk1
        rw [hk1] at q0
        clear hk1'
        have hcase : (x.num < 1 ∨ (L.length : Int) < x.num) ∨ ∃ (j : Nat) (s : Sl), x.num = (j : Int) + 1 ∧ L[j]? = some s := by
          by_cases hn : x.num < 1 ∨ (L.length : Int) < x.num
          · exact .inl hn
          · refine .inr ⟨(x.num - 1).toNat, L[(x.num - 1).toNat]'(by omega), by omega, List.getElem?_eq_getElem (by omega)⟩
        rcases hcase with hno | ⟨j, s, hj, hs⟩
        · have HR := Lib.hid (irel_no p g N L w3 x.num HG.out.map hno)
          have HU : Hid (usedAt L x.num = false) := Lib.hid (usedAt_no hno)
          obtain ⟨c5, hrun⟩ := HMap.look_ok HG.out.hh x.num HX64.out.1 HX64.out.2
          rw [HG.out.okh.has, HU.out] at hrun
          clear hno
          go_wp2_with (first
            | (go_at_call 8; go_must (refine HR.out.mono ?_; rintro e w4 ⟨rfl, rfl⟩))
            | (at_delete; refine wpList_delete_own _ rfl _ _ 26 3 rfl 27 intKeyed Try.underlying26 _ bh i Dh rfl HG.out.hh _ _ rfl (key_wf HX64.out.1 HX64.out.2) ?_; intro w5 hD5 ht5; have HG5 := Lib.hid ((HG.out.nodel x.num HU.out hD5 (keep_grown' ht5.grown)).more); clear hD5 ht5))
          exact ⟨⟨i + 1, L, Dh, Dl, by omega, by omega, by go_num, HG5⟩, by simp [intOf]; omega⟩
        · have HU : Hid (usedAt L x.num = !(s.kind == 0)) := Lib.hid (by rw [hj]; exact usedAt_at hs)
          by_cases hs0 : s.kind = 0
          · have HR := Lib.hid (irel_free p g N L w3 j s HG.out.map hL20 hs hs0)
            rw [← hj] at HR
            obtain ⟨c5, hrun⟩ := HMap.look_ok HG.out.hh x.num HX64.out.1 HX64.out.2
            have HUF : Hid (usedAt L x.num = false) := Lib.hid (by rw [HU.out, hs0]; rfl)
            rw [HG.out.okh.has, HUF.out] at hrun
            clear hj hs HU
            go_wp2_with (first
              | (go_at_call 8; go_must (refine HR.out.mono ?_; rintro e w4 ⟨rfl, rfl⟩))
              | (at_delete; refine wpList_delete_own _ rfl _ _ 26 3 rfl 27 intKeyed Try.underlying26 _ bh i Dh rfl HG.out.hh _ _ rfl (key_wf HX64.out.1 HX64.out.2) ?_; intro w5 hD5 ht5; have HG5 := Lib.hid ((HG.out.nodel x.num HUF.out hD5 (keep_grown' ht5.grown)).more); clear hD5 ht5))
            exact ⟨⟨i + 1, L, Dh, Dl, by omega, by omega, by go_num, HG5⟩, by simp [intOf]; omega⟩
          · have HR := Lib.hid (irel_yes p g N L w3 j s HG.out.map hL20 hs hs0)
            rw [← hj] at HR
            have HS := Lib.hid hs
            have HUT : Hid (usedAt L x.num = true) := Lib.hid (by rw [HU.out, show (s.kind == 0) = false from by simpa using hs0]; rfl)
            have HJ := Lib.hid hj
            clear hj hs HU
            go_upto_region 13 with (first
              | (go_at_call 8; go_must (refine HR.out.mono ?_; rintro e w4 ⟨rfl, hm4, hk4⟩; have HM4 := Lib.hid hm4; have HK4 := Lib.hid hk4; clear hm4 hk4)))
            rename_i w4
            have HA4 := Lib.hid (HA9.keep HK4.out (fun e => by have := HP9.out; omega))
            clear q0 q1 q2
            obtain ⟨q0, q1, q2⟩ := HA4.out
            rw [hk1] at q0
            have HH4 := Lib.hid (HG.out.hh.keep HK4.out (fun e => HG.out.gh e.symm))
            obtain ⟨c5, hrun⟩ := HMap.look_ok HH4.out x.num HX64.out.1 HX64.out.2
            rw [HG.out.okh.has, HUT.out] at hrun
            go_wp2_with (first
              | (at_delete; refine wpList_delete_own _ rfl _ _ 26 3 rfl 27 intKeyed Try.underlying26 _ bh i Dh rfl HH4.out _ _ rfl (key_wf HX64.out.1 HX64.out.2) ?_; intro w5 hD5 ht5; have HG5 := Lib.hid ((HG.out.release j s HS.out hs0 HM4.out HK4.out (by rw [← HJ.out]; exact hD5) (keep_grown' ht5.grown)).more); clear hD5 ht5))
            exact ⟨⟨i + 1, _, _, Dl, by omega, by omega, by go_num, HG5⟩, by simp [intOf]; omega⟩
      · have hk1' : (x.kind == 1) = false := by simpa using hk1
        clear hk1
        have hk : wrap64 (1 + bits BinOp.and IntKind.i64 x.n 1) = 1 ∨ wrap64 (1 + bits BinOp.and IntKind.i64 x.n 1) = 2 := land1k x.n
        have hk' : wrap64 (1 + bits BinOp.and IntKind.i64 x.n 1) ≠ 0 := by omega
        revert hk hk'
        generalize hK : wrap64 (1 + bits BinOp.and IntKind.i64 x.n 1) = K
        intro hk hk'
        by_cases hf : mFree L = none
        · have HR := Lib.hid (ialloc_none p g N L K w3 HG.out.map hL20 hk hf)
          have HF := Lib.hid hf
          clear hf
          go_upto_region 18 with (first
            | (go_at_call 9; rw [hK]; go_must (refine HR.out.mono ?_; rintro e w4 ⟨rfl, hb4⟩; have HB4 := Lib.hid hb4; clear hb4)))
          rename_i w4
          have HG4 := Lib.hid (HG.out.step HB4.out)
          have hlen := fun ty => World.ownsMap.len HG4.out.hh Try.underlying26 ty
          have hsz : (Maps.size Dh : Int) = (N : Int) := by rw [okH_full HG4.out.okh HF.out, HG4.out.len]
          rw [hsz] at hlen
          go_wp2
          exact ⟨⟨i + 1, L, Dh, Dl, by omega, by omega, by go_num, Lib.hid HG4.out.more⟩, by simp [intOf]; omega⟩
        · obtain ⟨j, hj⟩ : ∃ j, mFree L = some j := by
            cases h : mFree L with
            | none => exact absurd h hf
            | some j => exact ⟨j, rfl⟩
          obtain ⟨s, hs, hs0, _⟩ := mFree_some hj
          have hjN : j < N := by have := (List.getElem?_eq_some_iff.1 hs).1; rw [HG.out.len] at this; exact this
          have hver := HG.out.ver s (List.mem_of_getElem? hs)
          have HR := Lib.hid (ialloc_yes p g N L j s K w3 HG.out.map hL20 hk hj hs)
          unfold AllocTo at HR
          have hvn : (s.ver + 1) % 4294967296 < 4294967296 := Nat.mod_lt _ (by decide)
          have hww := u32_wrap s.ver
          revert HR hvn hww
          generalize (s.ver + 1) % 4294967296 = vn
          intro HR hvn hww
          have HJ := Lib.hid hj
          have HS := Lib.hid hs
          clear hj hs hf hver
          go_upto_region 18 with (first
            | (go_at_call 9; rw [hK]; go_must (refine HR.out.mono ?_; rintro e w4 ⟨rfl, hm4, hk4⟩; have HM4 := Lib.hid hm4; have HK4 := Lib.hid hk4; clear hm4 hk4)))
          rename_i w4
          have HH4 := Lib.hid (HG.out.hh.keep HK4.out (fun e => HG.out.gh e.symm))
          have HL4 := Lib.hid (HG.out.hl.keep HK4.out (fun e => HG.out.gl e.symm))
          obtain ⟨c5, hrun⟩ := HMap.look_ok HH4.out ((j : Int) + 1) (by omega) (by omega)
          have hno : Maps.has Dh (KL ((j : Int) + 1)) = false := by rw [HG.out.okh.has, usedAt_at HS.out, hs0]; rfl
          rw [hno] at hrun
          have hlast := HMap.look HL4.out ((j : Int) + 1) (by omega) (by omega) s.ver (HG.out.okl.at_ j s HS.out)
          clear hno
          have hjNb : ¬ ((N : Int) < (j : Int) + 1) := by omega
          have hj1b : ¬ ((j : Int) + 1 < 1) := by omega
          go_wp2
          go_loopw [18] (fun iv wq => ∃ k : Nat, k ≤ j ∧ iv = .int .i64 ((k : Int) + 1) ∧ wq = w4) (fun iv _ => ((j : Int) + 1 - intOf iv).toNat)
          case atStart => exact ⟨0, by omega, by go_num, rfl⟩
          case round =>
            obtain ⟨k, hkj, rfl, rfl⟩ := hrel
            by_cases hk2 : k < j
            · obtain ⟨c6, hrun6⟩ := HMap.look_ok HH4.out ((k : Int) + 1) (by omega) (by omega)
              rw [okH_below HG.out.okh HJ.out k hk2] at hrun6
              have hcmp : (k : Int) + 1 < (j : Int) + 1 := by omega
              go_wp2
              exact ⟨⟨k + 1, by omega, by first | (go_num; done) | (congr 1; omega), trivial⟩, by simp [intOf]; omega⟩
            · have hcmp : ¬ ((k : Int) + 1 < (j : Int) + 1) := by omega
              have hkey := key_wf (x := (j : Int) + 1) (by omega) (by omega)
              have hval := plainElem_int (H := Unit) Try.underlying27 (u32_wf hvn)
              have him : i < maxLen := by unfold maxLen; omega
              go_wp2_with (first
                | (at_mapUpdate; refine wpList_mapUpdate_own _ rfl _ _ _ 26 rfl 3 27 intKeyed Try.underlying26 _ bh i Dh rfl HH4.out him _ _ (KL ((j : Int) + 1)) rfl rfl hkey (U32 vn) [] hval ?_; intro w5 hD5 ht5; have HD5 := Lib.hid hD5; have HT5 := Lib.hid (keep_grown' ht5); have HE5 := Lib.hid (HL4.out.keep HT5.out (fun e => HG.out.hlne e.symm)); clear hD5 ht5)
                | (at_mapUpdate; refine wpList_mapUpdate_own _ rfl _ _ _ 26 rfl 3 27 intKeyed Try.underlying26 _ bl i Dl rfl HE5.out him _ _ (KL ((j : Int) + 1)) rfl rfl hkey (U32 vn) [] hval ?_; intro w6 hD6 ht6; have HD6 := Lib.hid hD6; have HT6 := Lib.hid (keep_grown' ht6); clear hD6 ht6))
              exact ⟨⟨i + 1, _, _, _, by omega, by omega, by go_num, Lib.hid (HG.out.give j s HS.out hs0 vn hvn K hk' _ HM4.out HK4.out HD5.out HT5.out HD6.out HT6.out)⟩, by simp [intOf]; omega⟩
    · have HC := Lib.hid (icount_any p g N L wr HG.out.map (by rw [HG.out.len]; omega))
      rw [usedN_cnt] at HC
      have hsz : (Maps.size Dh : Int) = (cnt L : Int) := by rw [HG.out.okh.size]
      unfold RetN at HC
      have hex : ∀ {Q : Prop}, (¬ (i < B.length) → Q) → (i < B.length ∧ ¬ (i < 60) → Q) → Q := fun h1 h2 => by
        by_cases h : i < B.length
        · exact h2 ⟨h, fun e => hlt ⟨h, e⟩⟩
        · exact h1 h
      refine hex (fun h1 => ?_) (fun ⟨h1, h2⟩ => ?_)
      all_goals
        clear hex hlt
        go_upto_region 31 with fail
        go_wp2_with (first
          | (go_at_call 10; go_must (refine HC.out.mono ?_; rintro e w4 ⟨rfl, hb4⟩; have HG4 := Lib.hid (HG.out.step hb4); have hlen := fun ty => World.ownsMap.len HG4.out.hh Try.underlying26 ty; rw [hsz] at hlen; clear hb4)))
        go_ret
        exact ⟨rfl, HG4.out.below⟩
end Go.Proofs.Ytakoajdcdoigdaa
