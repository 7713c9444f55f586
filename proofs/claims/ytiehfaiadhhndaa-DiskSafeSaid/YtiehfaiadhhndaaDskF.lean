/-
  Disk: lay, Flush, Queue.
-/
import Derived.Test.YtiehfaiadhhndaaDskE
namespace Go.Proofs.Ytiehfaiadhhndaa
open Go.RowKit
set_option linter.unusedVariables false
set_option linter.unusedSimpArgs false
theorem RawAt.sets {g k n c : Nat} {T : TypeId} : ∀ (vs : List Value) (o : Nat) {w : World} {cs : List Value}, RawAt w g T k n c cs → RawAt (w.setCells g o vs) g T k n c (setAt cs o vs)
  | [], _, _, _, h => h
  | v :: r, o, w, cs, h => RawAt.sets r (o + 1) (h.set o v)
def layS (S : List Sc) (L : List Wr) : List Sc := L.foldl (fun S q => S.set q.at_.toNat q.s) S
theorem layS_len (L : List Wr) : ∀ S : List Sc, (layS S L).length = S.length := by
  induction L with
  | nil => intro S; rfl
  | cons q L ih => intro S; show (layS (S.set _ _) L).length = _; rw [ih, List.length_set]
theorem layS_succ {S : List Sc} {L : List Wr} {j : Nat} {q : Wr} (h : L[j]? = some q) : layS S (L.take (j + 1)) = (layS S (L.take j)).set q.at_.toNat q.s := by
  have hlt : j < L.length := (List.getElem?_eq_some_iff.1 h).1
  have hx : L[j] = q := (List.getElem?_eq_some_iff.1 h).2
  unfold layS
  rw [List.take_succ_eq_append_getElem hlt, List.foldl_append, hx]; rfl
/-- Writes that are read, in a block that is not g. -/
def SrcAt (w : World) (g : Nat) (v : Value) (L : List Wr) : Prop :=
  (v = .slice none 0 0 ∧ L = []) ∨ ∃ b o c, v = .slice (some ⟨b, o, none⟩) L.length c ∧ b ≠ g ∧ b < w.heap.size ∧ ∀ j q, L[j]? = some q → w.rangeAt b (o + j * 129) (wrF q)
section
variable {w w' : World} {base p gS : Nat} {vq : Value} {D : Dk}
theorem own_src {n0 g : Nat} {v : Value} {L : List Wr} (h : w.ownsRow n0 71 129 v L.length (rowsOf wrF L)) (hg : ∀ k, v.ownBlock = some k → k ≠ g) : SrcAt w g v L := by
  rcases h with ⟨h1, ⟨e1, e2⟩ | ⟨b, cap, cur, e1, e2, e3, e4, e5, e6, e7⟩⟩
  · exact .inl ⟨e1, List.eq_nil_of_length_eq_zero e2⟩
  · refine .inr ⟨b, 0, cap, e1, hg b (by rw [e1]; rfl), (Array.getElem?_eq_some_iff.1 e3).1, fun j q hq i v hv => ?_⟩
    have hj : j < L.length := (List.getElem?_eq_some_iff.1 hq).1
    have hi : i < 129 := by have := (List.getElem?_eq_some_iff.1 hv).1; rwa [wrF_len] at this
    rw [cell_row e3, Nat.zero_add]
    have hr := rowsOf_get wrF_len L j i _ hq hi
    rw [hv, ← e7, List.getElem?_take_of_lt (by have : (j + 1) * 129 ≤ L.length * 129 := Nat.mul_le_mul_right _ hj; omega)] at hr
    simpa using hr
theorem DkAt.store (h : DkAt w base p gS vq D) (i : Nat) (s : Sc) (hi : i < D.S.length) : DkAt (w.setCells gS (i * 128) (scF s)) base p gS vq { D with S := D.S.set i s } ∧ Keep (· = gS) w (w.setCells gS (i * 128) (scF s)) := by
  obtain ⟨l1, l2, l3⟩ := h.lt
  have hk : Keep (· = gS) w (w.setCells gS (i * 128) (scF s)) := by
    obtain ⟨h1, h2⟩ := tape_setCells gS (scF s) (i * 128) w
    exact ⟨World.os_setCells _ _ _ _, h1, World.output_setCells _ _ _ _, by rw [h2]; exact Nat.le_refl _, fun k hk hf => World.heap_setCells_other _ _ _ _ hk hf⟩
  refine ⟨⟨?_, ?_, ?_, h.bp, h.bS, h.pS, h.qp⟩, hk⟩
  · have := hk.heap h.head (by exact h.pS)
    simpa using this
  · have hr := RawAt.sets (scF s) (i * 128) h.secs
    rw [rowsOf_setAt scF_len D.S i s hi] at hr
    exact ArrAt.of_raw (by simpa using hr) (by simp) rfl
  · rcases h.que with ⟨h1, h2 | ⟨g, cap, cur, e1, e2, e3, e4⟩⟩
    · exact ⟨h1, .inl h2⟩
    · exact ⟨h1, .inr ⟨g, cap, cur, e1, e2, hk.heap e3 (h.qp g (by rw [e1]; rfl)).2, e4⟩⟩
set_option maxRecDepth 100000 in
set_option maxHeartbeats 4000000 in
theorem dlay_any (L : List Wr) (vl : Value) (h : DkAt w base p gS vq D) (hs : SrcAt w gS vl L) (hL : L.length ≤ 1000) (hat : ∀ q ∈ L, 0 ≤ q.at_ ∧ q.at_ < (D.S.length : Int)) :
    Calls Try.prog 28 #[.pointer (some ⟨p, 0, none⟩), vl] w fun e w' => e = .returned (.tuple #[]) ∧ DkAt w' base p gS vq { D with S := layS D.S L } ∧ Keep (· = gS) w w' := by
  have HD := Lib.hid h
  have HA := Lib.hid hat
  have HS := Lib.hid hs
  obtain ⟨A, c, hvl⟩ : ∃ A c, vl = .slice A L.length c := by
    rcases hs with ⟨rfl, rfl⟩ | ⟨b, o, c, rfl, _⟩
    · exact ⟨none, 0, rfl⟩
    · exact ⟨_, _, rfl⟩
  subst hvl
  clear h hat hs
  go_enter Try.func28, Try.ntmps28
  go_wp2
  go_loopw [8] (fun i wr => ∃ j : Nat, j ≤ L.length ∧ i = .int .i64 (j : Int) ∧ Hid (DkAt wr base p gS vq { D with S := layS D.S (L.take j) }) ∧ Hid (Keep (· = gS) w wr)) (fun i _ => (L.length - intOf i).toNat)
  case atStart => exact ⟨0, by omega, by rfl, HD, Lib.hid (Keep.refl _ _)⟩
  case round =>
    obtain ⟨j, hj, rfl, HE, HK⟩ := hrel
    by_cases hlt : j < L.length
    · obtain ⟨q, hq⟩ : ∃ q, L[j]? = some q := ⟨_, List.getElem?_eq_getElem hlt⟩
      obtain ⟨b, o, c', e1, hbg, hbl, hrow⟩ : ∃ b o c', (.slice A L.length c : Value) = .slice (some ⟨b, o, none⟩) L.length c' ∧ b ≠ gS ∧ b < w.heap.size ∧ w.rangeAt b (o + j * 129) (wrF q) := by
        rcases HS.out with ⟨_, e⟩ | ⟨b, o, c', e1, e2, e3, e4⟩
        · rw [e] at hlt; exact absurd hlt (Nat.not_lt_zero _)
        · exact ⟨b, o, c', e1, e2, e3, e4 j q hq⟩
      simp only [Value.slice.injEq, true_and] at e1
      obtain ⟨eA, rfl⟩ := e1
      subst eA
      have hrw : wr.rangeAt b (o + j * 129) (wrF q) := fun i v hv => HK.out.cell (hrow i v hv) hbg
      have hqa := HA.out q (List.mem_of_getElem? hq)
      have hsucc := layS_succ (S := D.S) hq
      have HSU := Lib.hid hsucc
      have hzw := zero_wr
      obtain ⟨z, hzc, hzl⟩ : ∃ z : List Value, wrF wr0 = z ∧ z.length = 129 := ⟨_, rfl, wrF_len _⟩
      obtain ⟨ws, hws, hwl, hw1⟩ : ∃ ws : List Value, wrF q = ws ∧ ws.length = 129 ∧ ∀ v ∈ ws, v.oneCell' = true := ⟨_, rfl, wrF_len _, wrF_one _⟩
      rw [hzc] at hzw
      have HWS := Lib.hid hws
      rw [hws] at hrw
      clear hrow hsucc hq hws hzc
      go_upto_region 3 with (first
        | (refine wpList_load_mid rfl 71 (.tmp 10) rfl b (o + j * 129) rfl ws _ hrw Try.underlying71 rfl (by rw [hwl]; exact size_wr) ?_)
        | (refine wpList_store_row rfl 71 (.tmp 5) (.tmp 11) rfl wr.heap.size z.toArray ws.toArray 71 rfl rfl (heap_alloc_last _ _) (by simp only [List.size_toArray]; rw [hwl]; exact size_wr) (by simp [hwl, hzl]) (all_oneCell_toArray hw1) ?_))
      rw [World.setRow_alloc_new]
      have hbA : Below wr.heap.size wr (wr.alloc (.cells ws.toArray 71)) := (Below.refl _ wr).alloc (Nat.le_refl _) _
      have hDA := HE.out.below hbA.drew
      have hx5 := new_heap wr (.cells ws.toArray 71 (0, 0))
      obtain ⟨i, hi⟩ : ∃ i : Nat, q.at_ = (i : Int) := ⟨q.at_.toNat, by omega⟩
      have hil : i < (layS D.S (L.take j)).length := by rw [layS_len]; omega
      have hsl : ((layS D.S (L.take j)).length : Int) = (D.S.length : Int) := by rw [layS_len]
      obtain ⟨cs, hcs, hcl, hone⟩ : ∃ cs : List Value, scF q.s = cs ∧ cs.length = 128 ∧ ∀ v ∈ cs, v.oneCell' = true := ⟨_, rfl, scF_len _, scF_one _⟩
      have hws2 : ws = .int .i64 (i : Int) :: cs := by rw [← HWS.out, ← hcs, ← hi]; rfl
      have c50 : (wr.alloc (.cells ws.toArray 71)).drew.cell? ⟨wr.heap.size, 0, none⟩ = some (.int .i64 (i : Int)) := by
        have := cell_row hx5 0
        rw [hws2] at this
        rw [hws2]; exact this
      have c51 : (wr.alloc (.cells ws.toArray 71)).drew.rangeAt wr.heap.size 1 cs := fun j v hv => by
        have := cell_row hx5 (1 + j)
        rw [hws2] at this ⊢
        refine this.trans ?_
        rw [Nat.add_comm 1 j]
        simpa using hv
      obtain ⟨d0, d1, d2, d3, d4⟩ := hDA.cells
      have hlt5 : p < wr.heap.size ∧ gS < wr.heap.size := ⟨HE.out.lt.1, HE.out.lt.2.1⟩
      obtain ⟨hS1, hS2⟩ := hDA.store i q.s hil
      rw [hcs] at hS1 hS2
      have hth : (wr.alloc (.cells ws.toArray 71)).drew.there gS (i * 128) 128 := by
        obtain ⟨cur, e1, e2, e3, e4, e5⟩ := hDA.secs
        intro k hk
        have hlen : i * 128 + k < cur.size := by
          rw [e2]
          have : (i + 1) * 128 ≤ (layS D.S (L.take j)).length * 128 := Nat.mul_le_mul_right _ hil
          have := Nat.mul_le_mul_right 128 e3
          dsimp only at *
          omega
        exact ⟨by rw [cell_row e1]; simp [hlen], free_row e1 _⟩
      have hu := Try.underlying31
      have hsz : (Try.prog.info? 31).map (·.size) = some cs.length := by rw [hcl]; exact size_sec
      have hKA : Keep (· = gS) w ((wr.alloc (.cells ws.toArray 71)).drew.setCells gS (i * 128) cs) := (HK.out.trans (Keep.of_below hbA.drew)).trans hS2
      have k1 := hS2.cell (p := ⟨p, 2, none⟩) d2 HE.out.pS
      have k2 := hS2.cell (p := ⟨wr.heap.size, 0, none⟩) c50 (by show ¬ wr.heap.size = gS; omega)
      have k3 : ((wr.alloc (.cells ws.toArray 71)).drew.setCells gS (i * 128) cs).rangeAt wr.heap.size 1 cs := fun j v hv => hS2.cell (p := ⟨wr.heap.size, 1 + j, none⟩) (c51 j v hv) (by show ¬ wr.heap.size = gS; omega)
      have k4 := World.there_setCells hth gS (i * 128) cs
      have hi0 : (0 : Int) ≤ (i : Int) := by omega
      have hi1 : (i : Int) < (((layS D.S (L.take j)).length : Nat) : Int) := by omega
      have HSS := Lib.hid hS1
      have HKK := Lib.hid hKA
      clear hS1 hS2 hKA hbA hDA hx5 hqa hrw d0 d1 d3 d4 hws2 hsl
      dsimp only at d2 k1
      go_region_held3 (fun w' => w'.cell? ⟨p, 2, none⟩ = some (.slice (some ⟨gS, 0, none⟩) (layS D.S (L.take j)).length D.cap) ∧ w'.cell? ⟨wr.heap.size, 0, none⟩ = some (.int .i64 (i : Int)) ∧ w'.rangeAt wr.heap.size 1 cs ∧ w'.there gS (i * 128) 128) (first | exact ⟨d2, c50, c51, hth⟩ | exact ⟨k1, k2, k3, k4⟩ | trace_state)
        (first
          | (trace_state; fail))
      clear d2 c50 c51 hth k1 k2 k3 k4
      revert HSS HKK
      generalize (wr.alloc (.cells ws.toArray 71)).drew.setCells gS (i * 128) cs = w9
      intro HSS HKK
      go_wp2
      refine ⟨⟨j + 1, by omega, by go_num, Lib.hid ?_, HKK⟩, by simp [intOf]; omega⟩
      have := HSS.out
      rw [HSU.out, hi, Int.toNat_natCast]
      exact this
    · obtain rfl : j = L.length := by omega
      have hT : L.take L.length = L := List.take_length
      rw [hT] at HE
      go_wp2
      go_end0
      exact ⟨rfl, HE.out, HK.out⟩
end
end Go.Proofs.Ytiehfaiadhhndaa
