/-
  Disk: sized; what acts keep.
-/
import Derived.Test.YtiehfaiadhhndaaDskZ
import Derived.Test.YtiehfaiadhhndaaSliN
namespace Go.Proofs.Ytiehfaiadhhndaa
open Go.RowKit
set_option linter.unusedVariables false
set_option linter.unusedSimpArgs false
set_option linter.unnecessarySimpa false
attribute [local go_sem] maxI_two minI_two
theorem DOk.up {D : Dk} {m : Nat} (ho : DOk D m) : DOk D (m + 1) := ⟨ho.arm, by have := ho.deeds; omega, by have := ho.len; omega, ho.at_⟩
theorem writeD_ok {D : Dk} {m : Nat} (ho : DOk D m) (x : Int) (s : Sc) : DOk (writeD D x s).1 (m + 1) ∧ (writeD D x s).1.S.length = D.S.length := by
  unfold writeD
  by_cases h : mayE D x = 0
  · rw [if_pos h]
    have hat : 0 ≤ x ∧ x < (D.S.length : Int) := by
      unfold mayE at h
      by_cases h2 : x < 0 ∨ (D.S.length : Int) ≤ x
      · rw [if_pos h2] at h; simp at h
      · omega
    have h1 := ho.arm; have h2 := ho.deeds; have h3 := ho.len
    refine ⟨⟨?_, ?_, ?_, ?_⟩, ?_⟩
    · unfold deedD; dsimp only; split <;> dsimp only <;> (try split) <;> omega
    · unfold deedD; dsimp only; split <;> dsimp only <;> omega
    · rw [deedD_Q]; simp; omega
    · rw [deedD_Q, deedD_S]
      intro q hq
      rcases List.mem_append.1 hq with hq | hq
      · exact ho.at_ q hq
      · simp only [List.mem_singleton] at hq; subst hq; exact hat
    · rw [deedD_S]
  · rw [if_neg h]
    exact ⟨ho.up, rfl⟩
theorem flushD_ok {D : Dk} {m : Nat} (ho : DOk D m) : DOk (flushD D).1 (m + 1) ∧ (flushD D).1.S.length = D.S.length := by
  have h1 := ho.arm; have h2 := ho.deeds; have h3 := ho.len
  have hq := ho.at_
  unfold flushD
  by_cases h : D.dead = true
  · rw [if_pos h]; exact ⟨ho.up, rfl⟩
  · rw [if_neg h]
    by_cases ha : D.arm = 0
    · rw [if_pos ha]
      refine ⟨⟨?_, ?_, by rw [deedD_Q]; omega, by rw [deedD_Q, deedD_S]; exact hq⟩, by rw [deedD_S]⟩
      · unfold deedD; rw [if_pos ha]; exact h1
      · unfold deedD; rw [if_pos ha]; dsimp only; omega
    · rw [if_neg ha]
      refine ⟨⟨?_, ?_, by simp, by simp⟩, by simp [layS_len]⟩
      · unfold deedD; rw [if_neg ha]; dsimp only; split <;> omega
      · unfold deedD; rw [if_neg ha]; dsimp only; omega
theorem actD_ok {D : Dk} {m : Nat} (ho : DOk D m) {a : Ac} {w : World} (ha : AcOk w a) : DOk (actD D a) (m + 1) ∧ (actD D a).S.length = D.S.length := by
  have h1 := ho.arm; have h2 := ho.deeds; have h3 := ho.len; have h4 := ha.at_
  have same : DOk D (m + 1) ∧ D.S.length = D.S.length := ⟨⟨ho.arm, by omega, by omega, ho.at_⟩, rfl⟩
  unfold actD
  split
  · exact writeD_ok ho _ _
  · split
    · exact flushD_ok ho
    · split
      · unfold armD
        split
        · exact same
        · exact ⟨⟨by dsimp only; unfold mxI; split <;> omega, by dsimp only; omega, by dsimp only; omega, ho.at_⟩, rfl⟩
      · split
        · unfold crashD
          exact ⟨⟨by dsimp only; omega, by dsimp only; omega, by simp, by simp⟩, by simp [layS_len]⟩
        · exact same
theorem DkAt.low {w : World} {base base' p gS : Nat} {vq : Value} {D : Dk} (h : DkAt w base p gS vq D) (hb : base' ≤ base) : DkAt w base' p gS vq D :=
  ⟨h.head, h.secs, own_low h.que hb, Nat.le_trans hb h.bp, Nat.le_trans hb h.bS, h.pS, h.qp⟩
def szN (n : Int) : Nat := (mxI 1 (mnI n 30)).toNat
theorem szN_eq (n : Int) : mxI 1 (mnI n 30) = (szN n : Int) ∧ 1 ≤ szN n ∧ szN n ≤ 30 := by
  have h : 1 ≤ mxI 1 (mnI n 30) ∧ mxI 1 (mnI n 30) ≤ 30 := by unfold mxI mnI; split <;> split <;> omega
  unfold szN; omega
theorem results_tc {P : Program} {fn : Func} {tmps : Array Value} {a s : Nat} {t : TypeId} {ad : Addr} {v u : Value} {w : World} (hr : fn.results = #[.tmp s, .cell a t]) (hp : tmps.getD a undef = .pointer (some ad)) (hq : tmps.getD s undef = u) (hl : (loadVar t ad).run P w = .ok v w) :
    (results fn tmps).run P w = .ok (.tuple #[u, v]) w := by
  rw [Array.getD_eq_getD_getElem?] at hp hq
  simp [results, hr, asAddr, hp, hq, hl, Sem.run_bind]
def SizedTo (X : Nat → Prop) (w : World) (k : Nat) (e : Ending) (w' : World) : Prop := ∃ p gS vS, e = .returned (.tuple #[.pointer (some ⟨p, 0, none⟩), rdV (dk0 k) vS (.slice none 0 0)]) ∧ DkAt w' w.heap.size p gS (.slice none 0 0) (dk0 k) ∧ RefAt w' (FtX X p gS (.slice none 0 0)) vS (.slice none 0 0) (dk0 k) ∧ Below w.heap.size w w'
set_option maxRecDepth 100000 in
set_option maxHeartbeats 4000000 in
theorem lsized_any (X : Nat → Prop) (n : Int) (w : World) (hn : -9223372036854775808 ≤ n ∧ n ≤ 9223372036854775807) (hX : ∀ k, X k → k < w.heap.size) : Calls Try.prog 18 #[.int .i64 n] w (SizedTo X w (szN n)) := by
  obtain ⟨he, h1, h2⟩ := szN_eq n
  have HE := Lib.hid he
  have HN := fun (W : World) => Lib.hid (dnew_yes (szN n) W h1 (by omega))
  have HR := fun (W : World) => Lib.hid (rnew3_any (szN n) W (by omega))
  unfold DNewTo at HN
  clear he
  have HX0 := Lib.hid (new_heap w (.cells #[.slice none 0 0, .slice none 0 0, .bool false, .int .i64 0, .int .i64 0] 43))
  have HB0 := Lib.hid ((Below.refl w.heap.size w).alloc (Nat.le_refl _) (.cells #[.slice none 0 0, .slice none 0 0, .bool false, .int .i64 0, .int .i64 0] 43))
  go_enter Try.func18, Try.ntmps18
  go_upto_region 2 with fail
  rw [HE.out]
  revert HX0 HB0
  generalize w.alloc (.cells #[.slice none 0 0, .slice none 0 0, .bool false, .int .i64 0, .int .i64 0] 43) = w1
  intro HX0 HB0
  have hsz1 : w.heap.size < w1.heap.size := (Array.getElem?_eq_some_iff.1 HX0.out).1
  go_upto_region 3 with (first
    | (go_at_call 9; go_must (refine (HN _).out.mono ?_; rintro e w2 ⟨p, gS, rfl, hd2, hb2⟩; have HD2 := Lib.hid hd2; have HB2 := Lib.hid hb2; clear hd2 hb2)))
  have hsz2 := HB2.out.size
  go_wp2_with (first
    | (go_at_call 29; go_must (refine (HR _).out.mono ?_; rintro e w3 ⟨vS, rfl, ho3, hb3⟩; obtain ⟨sS, cS, rfl⟩ := own_slice1 ho3; unfold rdV; have hx6 := old_heap (old_heap HX0.out HB2.out) hb3; have n0 : w3.cell? ⟨w.heap.size, 0, none⟩ = some (.slice none 0 0) := cell_row hx6 0; have n1 : w3.cell? ⟨w.heap.size, 1, none⟩ = some (.slice none 0 0) := cell_row hx6 1; have n2 : w3.cell? ⟨w.heap.size, 2, none⟩ = some (.bool false) := cell_row hx6 2; have n3 : w3.cell? ⟨w.heap.size, 3, none⟩ = some (.int .i64 0) := cell_row hx6 3; have n4 : w3.cell? ⟨w.heap.size, 4, none⟩ = some (.int .i64 0) := cell_row hx6 4; have m0 := free_row hx6 0; have m1 := free_row hx6 1; have m2 := free_row hx6 2; have m3 := free_row hx6 3; have m4 := free_row hx6 4; have HX3 := Lib.hid hx6; have HO3 := Lib.hid ho3; have HB3 := Lib.hid hb3; clear hx6 ho3 hb3)))
  rw [← set5]
  have h5 := set5_heap (a' := .slice sS (szN n) cS) (b' := .slice none 0 0) (c' := .bool (dk0 (szN n)).dead) (d' := .int .i64 (dk0 (szN n)).arm) (e' := .int .i64 (dk0 (szN n)).deeds) HX3.out
  have hk5 := tape_set5 (w := w3) (g := w.heap.size) (a := .slice sS (szN n) cS) (b := .slice none 0 0) (c := .bool (dk0 (szN n)).dead) (d := .int .i64 (dk0 (szN n)).arm) (e := .int .i64 (dk0 (szN n)).deeds)
  have hge := Ft.ge HD2.out
  have hlt := Ft.lt HD2.out
  refine bodyPost_ret (results_tc Try.results18 rfl rfl (load_rdisk h5)) rfl ⟨p, gS, .slice sS (szN n) cS, rfl, ?_, ⟨?_, RowsAt.nil⟩, ?_⟩
  · exact ((HD2.out.below HB3.out).keep hk5 (fun e => by have := hge p (.inl rfl); omega) (fun e => by have := hge gS (.inr (.inl rfl)); omega) (fun k hk e => by have := hge k (.inr (.inr hk)); omega)).low (by omega)
  · refine own_rows (T := 30) (base := w2.heap.size) (n := szN n) scF_len ?_ (by simp [dk0]) (fun b hb hf => ?_)
    · exact own_move HO3.out (fun k hk => set5_far (by have := (HO3.out.lt k hk).1; omega))
    · rcases hf with hf | hf
      · have := hlt b hf; omega
      · have := hX b hf; omega
  · exact set5_below (bnext (bnext HB0.out HB2.out) HB3.out) (Nat.le_refl _)
end Go.Proofs.Ytiehfaiadhhndaa
