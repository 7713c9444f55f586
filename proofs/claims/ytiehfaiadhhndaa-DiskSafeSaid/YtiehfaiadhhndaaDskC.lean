/-
  Disk: Read.
-/
import Derived.Test.YtiehfaiadhhndaaDskB
import Derived.Deep.Upon
import Derived.Deep.DeepCutAuto
import Derived.Deep.CutBlock
import Derived.Laws.IdiomCopy
namespace Go.Proofs.Ytiehfaiadhhndaa
open Go.RowKit Go.Shelf
set_option linter.unusedVariables false
set_option linter.unusedSimpArgs false
attribute [local go_sem] Oper.semAt_some
theorem there_new (w : World) (cs : Array Value) (t : TypeId) {n : Nat} (hn : n = cs.size) : (w.alloc (.cells cs t (0, 0))).there w.heap.size 0 n := fun j hj => by
  have := cell_row (new_heap w (.cells cs t (0, 0))) (0 + j)
  refine ⟨by rw [this]; simp; omega, free_row (new_heap w _) _⟩
theorem there_of {w : World} {g : Nat} {cs : Array Value} {t : TypeId} (h : w.heap[g]? = some (.cells cs t (0, 0))) {n : Nat} (hn : n = cs.size) : w.there g 0 n := fun j hj => by
  have := cell_row h (0 + j)
  refine ⟨by rw [this]; simp; omega, free_row h _⟩
theorem results_cell_cell {P : Program} {fn : Func} {tmps : Array Value} {a s : Nat} {t t' : TypeId} {ad ad' : Addr} {v u : Value} {w : World} (hr : fn.results = #[.cell a t, .cell s t']) (hp : tmps.getD a undef = .pointer (some ad)) (hq : tmps.getD s undef = .pointer (some ad')) (hl : (loadVar t ad).run P w = .ok v w) (hm : (loadVar t' ad').run P w = .ok u w) :
    (results fn tmps).run P w = .ok (.tuple #[v, u]) w := by
  rw [Array.getD_eq_getD_getElem?] at hp hq
  simp [results, hr, asAddr, hp, hq, hl, hm, Sem.run_bind]
/-- What a row stored into the first result's block leaves of the others. -/
theorem st_facts {W0 w : World} {s : Nat} {cs zs : List Value} {T T' : TypeId} {e : Value} (h4 : W0.heap[s + 1]? = some (.cells zs.toArray T (0, 0))) (h5 : W0.heap[s + 1 + 1]? = some (.cells #[e] T' (0, 0))) (hl : cs.length = zs.length) (hB : Below s w W0) :
    (W0.setCells (s + 1) 0 cs).rangeAt (s + 1) 0 cs ∧ (W0.setCells (s + 1) 0 cs).cell? ⟨s + 1 + 1, 0, none⟩ = some e ∧ (W0.setCells (s + 1) 0 cs).frozen? ⟨s + 1 + 1, 0, none⟩ = false ∧ Below s w (W0.setCells (s + 1) 0 cs) := by
  refine ⟨World.rangeAt_setCells_same _ _ _ _ (there_of h4 (by simpa using hl)), ?_, ?_, ?_⟩
  · rw [World.cell?_setCells_out _ _ _ _ _ (fun h => absurd h (by simp))]; exact cell_row h5 0
  · rw [World.frozen?_setCells]; exact free_row h5 0
  · refine ⟨(World.os_setCells _ _ _ _).trans hB.os, ?_, (World.output_setCells _ _ _ _).trans hB.output, ?_, fun k hk => ?_⟩
    · have key : ∀ (vs : List Value) (o : Nat) (W : World), (W.setCells (s + 1) o vs).tape = W.tape := by
        intro vs
        induction vs with
        | nil => intro o W; rfl
        | cons v r ih => intro o W; rw [World.setCells, ih]; rfl
      exact (key _ _ _).trans hB.tape
    · have key : ∀ (vs : List Value) (o : Nat) (W : World), (W.setCells (s + 1) o vs).heap.size = W.heap.size := by
        intro vs
        induction vs with
        | nil => intro o W; rfl
        | cons v r ih => intro o W; rw [World.setCells, ih]; simp [World.setCell]
      rw [key]; exact hB.size
    · have hk2 : k < W0.heap.size := Nat.lt_trans hk (Nat.lt_of_lt_of_le (Nat.lt_succ_self _) (Nat.le_of_lt (Array.getElem?_eq_some_iff.1 h4).1))
      exact (World.heap_setCells_other _ _ _ _ hk2 (by omega)).trans (hB.block k hk)
theorem end_facts {w W1 : World} {s : Nat} {cs : List Value} {e v : Value} (r1 : W1.rangeAt (s + 1) 0 cs) (r2 : W1.cell? ⟨s + 1 + 1, 0, none⟩ = some e) (r4 : Below s w W1) (hs : s ≤ w.heap.size) :
    (W1.setCell ⟨s + 1 + 1, 0, none⟩ v).rangeAt (s + 1) 0 cs ∧ (W1.setCell ⟨s + 1 + 1, 0, none⟩ v).cell? ⟨s + 1 + 1, 0, none⟩ = some v ∧ Below s w (W1.setCell ⟨s + 1 + 1, 0, none⟩ v) :=
  ⟨fun j u hu => by rw [World.cell?_setCell_far _ _ _ _ (by simp)]; exact r1 j u hu, World.cell?_setCell_same' _ _ _ (by rw [r2]; rfl), r4.setCell (p := ⟨s + 1 + 1, 0, none⟩) (by show s ≤ s + 1 + 1; omega) _⟩
theorem load_errno {w : World} {g : Nat} {n : Int} (h : w.cell? ⟨g, 0, none⟩ = some (.int .i64 n)) : (loadVar 24 ⟨g, 0, none⟩).run Try.prog w = .ok (.int .i64 n) w := by
  have hu := Try.underlying24
  go_simp
theorem own_slice1 {w : World} {base e size n : Nat} {v : Value} {xs : List Value} (h : w.ownsRow base e size v n xs) : ∃ sp c, v = .slice sp n c := by
  rcases h.2 with ⟨rfl, rfl⟩ | ⟨g, cap, cur, rfl, _⟩
  · exact ⟨_, _, rfl⟩
  · exact ⟨_, _, rfl⟩
theorem keeps_setCells (g : Nat) : ∀ (vs : List Value) (o : Nat) (W : World), KeepsOthers W (W.setCells g o vs)
  | [], _, W => KeepsOthers.refl W
  | v :: r, o, W => (KeepsOthers.setCell W ⟨g, o, none⟩ v).trans (keeps_setCells g r (o + 1) _)
theorem tape_setCells (g : Nat) : ∀ (vs : List Value) (o : Nat) (W : World), (W.setCells g o vs).tape = W.tape ∧ (W.setCells g o vs).heap.size = W.heap.size
  | [], _, W => ⟨rfl, rfl⟩
  | v :: r, o, W => by
    obtain ⟨h1, h2⟩ := tape_setCells g r (o + 1) (W.setCell ⟨g, o, none⟩ v)
    rw [World.setCells]
    exact ⟨h1.trans rfl, h2.trans (by simp [World.setCell])⟩
theorem below_setCells {n0 g o : Nat} {W0 W : World} {vs : List Value} (h : Below n0 W0 W) (hn : n0 ≤ W0.heap.size) (hg : n0 ≤ g) : Below n0 W0 (W.setCells g o vs) := by
  obtain ⟨h1, h2⟩ := tape_setCells g vs o W
  exact ⟨(World.os_setCells _ _ _ _).trans h.os, h1.trans h.tape, (World.output_setCells _ _ _ _).trans h.output, by rw [h2]; exact h.size, fun k hk => (World.heap_setCells_other _ _ _ _ (Nat.lt_of_lt_of_le hk (Nat.le_trans hn h.size)) (by omega)).trans (h.block k hk)⟩
theorem zero_wr (w : World) : (zeroValue 71).run Try.prog w = .ok (.agg (wrF wr0).toArray) w := by
  have h : (Try.prog.info? 71).map (fun i => (i.zero, i.size)) = some (some (.agg (wrF wr0).toArray), 129) := by kernel_rfl
  exact (zero_of_info h).1 w
def RegS (p gS s i n c : Nat) (cs : List Value) (w' : World) : Prop := w'.cell? ⟨p, 2, none⟩ = some (.slice (some ⟨gS, 0, none⟩) n c) ∧ w'.cell? ⟨s, 0, none⟩ = some (.int .i64 (i : Int)) ∧ w'.rangeAt gS (i * 128) cs ∧ w'.there (s + 1) 0 128 ∧ w'.cell? ⟨s + 1 + 1, 0, none⟩ = some (.int .i64 0) ∧ w'.frozen? ⟨s + 1 + 1, 0, none⟩ = false
theorem RegS.drew {p gS s i n c : Nat} {cs : List Value} {w : World} (h : RegS p gS s i n c cs w) : RegS p gS s i n c cs w.drew := ⟨h.1, h.2.1, (World.rangeAt_drew _ _ _ _).2 h.2.2.1, (World.there_drew _ _ _ _).2 h.2.2.2.1, h.2.2.2.2⟩
theorem RegS.store {p gS s i n c : Nat} {cs : List Value} {w : World} (h : RegS p gS s i n c cs w) (hp : p < s) (hg : gS < s) : RegS p gS s i n c cs (w.setCells (s + 1) 0 cs) := by
  have far : ∀ b o, b ≠ s + 1 → (w.setCells (s + 1) 0 cs).cell? ⟨b, o, none⟩ = w.cell? ⟨b, o, none⟩ := fun b o hb => World.cell?_setCells_out _ _ _ _ _ (fun e => absurd e hb)
  exact ⟨(far _ _ (by omega)).trans h.1, (far _ _ (by omega)).trans h.2.1, fun j v hv => (far _ _ (by omega)).trans (h.2.2.1 j v hv), World.there_setCells h.2.2.2.1 _ _ _, (far _ _ (by omega)).trans h.2.2.2.2.1, (World.frozen?_setCells _ _ _ _ _).trans h.2.2.2.2.2⟩
theorem RegS.cell {p gS s i n c : Nat} {cs : List Value} {w : World} (h : RegS p gS s i n c cs w) (hp : p < s) (hg : gS < s) : RegS p gS s i n c cs (w.setCell ⟨s + 1 + 1, 0, none⟩ (.int .i64 0)) := by
  have far : ∀ b o, b ≠ s + 1 + 1 → (w.setCell ⟨s + 1 + 1, 0, none⟩ (.int .i64 0)).cell? ⟨b, o, none⟩ = w.cell? ⟨b, o, none⟩ := fun b o hb => World.cell?_setCell_far _ _ _ _ (fun e => hb e.symm)
  exact ⟨(far _ _ (by omega)).trans h.1, (far _ _ (by omega)).trans h.2.1, fun j v hv => (far _ _ (by omega)).trans (h.2.2.1 j v hv), fun j hj => by rw [far _ _ (by omega), World.frozen?_setCell]; exact h.2.2.2.1 j hj, World.cell?_setCell_same' _ _ _ (by rw [h.2.2.2.2.1]; rfl), by rw [World.frozen?_setCell]; exact h.2.2.2.2.2⟩
def RdEnd (w : World) (s : Sc) (E : Int) (e : Ending) (w' : World) : Prop := e = .returned (.tuple #[secV s.1, .int .i64 E]) ∧ Below w.heap.size w w'
set_option maxRecDepth 100000 in
set_option maxHeartbeats 4000000 in
theorem dread_any {w : World} {base p gS : Nat} {vq : Value} {D : Dk} (at_ : Int) (h : DkAt w base p gS vq D) (hQ : D.Q.length ≤ 1000) :
    Calls Try.prog 14 #[.pointer (some ⟨p, 0, none⟩), .int .i64 at_] w (RdEnd w (readS D at_) (mayE D at_)) := by
  have HD := Lib.hid h
  clear h
  refine (callsIn_wide (n := 4)).1 ?_
  refine callsIn_of_wp_marks Try.func14 rfl trivial ?_ rfl
  simp only [Try.ntmps14, List.size_toArray, List.length_cons, List.length_nil, Nat.reduceAdd, Nat.reduceSub, Array.replicate_succ, Array.replicate_zero, List.push_toArray, List.append_toArray, List.nil_append, List.cons_append]
  obtain ⟨zs, hzs, hzl, hz1⟩ : ∃ zs : List Value, secV (List.replicate 128 0) = .agg zs.toArray ∧ zs.length = 128 ∧ ∀ v ∈ zs, v.oneCell' = true := ⟨bvs (List.replicate 128 0), rfl, by simp, bvs_oneCell _⟩
  have hz : ∀ w, (zeroValue 31).run Try.prog w = .ok (.agg zs.toArray) w := fun w => by rw [zero_sec w, zArr_sec, hzs]
  obtain ⟨W0, hW0⟩ : ∃ W0, ((w.alloc (.cells #[.int .i64 at_] 3)).alloc (.cells zs.toArray 31)).alloc (.cells #[.int .i64 0] 24) = W0 := ⟨_, rfl⟩
  have HB0 : Hid (Below w.heap.size w W0) := Lib.hid (by rw [← hW0]; exact (((Below.refl w.heap.size w).alloc (Nat.le_refl _) (.cells #[.int .i64 at_] 3)).alloc (by simp) (.cells zs.toArray 31)).alloc (by simp; omega) (.cells #[.int .i64 0] 24))
  have hsz0 : W0.heap.size = w.heap.size + 3 := by rw [← hW0]; simp
  have h3 : W0.heap[w.heap.size]? = some (.cells #[.int .i64 at_] 3 (0, 0)) := by
    rw [← hW0]
    exact old_heap (old_heap (new_heap w _) ((Below.refl _ _).alloc (Nat.le_refl _) _)) ((Below.refl _ _).alloc (Nat.le_refl _) _)
  have h4 : W0.heap[w.heap.size + 1]? = some (.cells zs.toArray 31 (0, 0)) := by
    rw [← hW0]
    have := new_heap (w.alloc (.cells #[.int .i64 at_] 3)) (.cells zs.toArray 31 (0, 0))
    rw [World.size_alloc] at this
    exact old_heap this ((Below.refl _ _).alloc (Nat.le_refl _) _)
  have h5 : W0.heap[w.heap.size + 1 + 1]? = some (.cells #[.int .i64 0] 24 (0, 0)) := by
    rw [← hW0]
    have := new_heap ((w.alloc (.cells #[.int .i64 at_] 3)).alloc (.cells zs.toArray 31)) (.cells #[.int .i64 0] 24 (0, 0))
    rw [World.size_alloc, World.size_alloc] at this
    exact this
  have HD0 := Lib.hid (HD.out.below HB0.out)
  have HMY := Lib.hid (dmay_any at_ HD0.out)
  have hc3 : W0.cell? ⟨w.heap.size, 0, none⟩ = some (.int .i64 at_) := cell_row h3 0
  have H3 := Lib.hid h3
  have H4 := Lib.hid h4
  have H5 := Lib.hid h5
  have HW0 := Lib.hid hW0
  clear h3 h4 h5 hW0
  have HE := Lib.hid (rfl : mayE D at_ = mayE D at_)
  by_cases hE0 : mayE D at_ = 0
  · have hne : (mayE D at_ != 0) = false := by rw [hE0]; rfl
    have hat : 0 ≤ at_ ∧ at_ < (D.S.length : Int) := by
      unfold mayE at hE0
      by_cases h : at_ < 0 ∨ (D.S.length : Int) ≤ at_
      · rw [if_pos h] at hE0; simp at hE0
      · omega
    have HRS : Hid (readS D at_ = ((lastW D.Q at_).getD (D.S.getD at_.toNat sc0))) := Lib.hid (by
      unfold readS
      rw [if_pos hE0]
      cases lastW D.Q at_ <;> rfl)
    have hq := own_slice1 HD0.out.que
    obtain ⟨sq, cq, rfl⟩ := hq
    obtain ⟨d0, d1, d2, d3, d4⟩ := HD0.out.cells
    generalize readS D at_ = Sr at *
    rw [hE0] at HMY ⊢
    rw [hE0] at hne
    clear HE
    gi_wp2_with (first
      | (refine ⟨trivial, ?_⟩; gi_at_call 25; rw [HW0.out]; refine (callsIn_wide.2 HMY.out).mono ?_; rintro e w' ⟨rfl, rfl⟩)
      | (refine ⟨trivial, ?_⟩; gi_at_call 26; refine (backward_any _ _ _ _ _).mono ?_; rintro e w' ⟨rfl, rfl⟩))
    rename_i K0 hK0
    have hbl : Below W0.heap.size W0 (W0.alloc (.cells #[.slice sq D.Q.length cq] 67)) := (Below.refl _ W0).alloc (Nat.le_refl _) _
    obtain ⟨Wl, hWl⟩ : ∃ Wl, W0.alloc (.cells #[.slice sq D.Q.length cq] 67) = Wl := ⟨_, rfl⟩
    rw [hWl] at hbl ⊢
    have hplt : p < w.heap.size ∧ gS < w.heap.size := ⟨HD.out.lt.1, HD.out.lt.2.1⟩
    have hszl : Wl.heap.size = w.heap.size + 4 := by rw [← hWl]; simp [hsz0]
    have hbx : Wl.cell? ⟨w.heap.size + 3, 0, none⟩ = some (.slice sq D.Q.length cq) := by
      rw [← hWl, ← hsz0]; exact cell_row (new_heap W0 _) 0
    have hdl := HD0.out.below hbl
    have h3l := old_heap H3.out hbl
    have h4l := old_heap H4.out hbl
    have h5l := old_heap H5.out hbl
    have hBl : Below w.heap.size w Wl := HB0.out.trans (hbl.mono (by omega))
    have HDl := Lib.hid hdl
    have H3l := Lib.hid h3l
    have H4l := Lib.hid h4l
    have H5l := Lib.hid h5l
    have HBl := Lib.hid hBl
    clear hbl hWl hdl h3l h4l h5l hBl HMY HW0 H3 H4 H5 HD0 HB0 hc3 d0 d1 d2 d3 d4 hne HD
    generalize hs : w.heap.size = s at *
    refine wpIn_rangeFunc_ownH rfl (by decide) (gf := 39) (lb := #[.pointer (some ⟨s + 3, 0, none⟩)]) rfl trivial (enters_of Try.func39 (by kernel_rfl) rfl)
      (back_stops 3 (by decide) (s + 3) (s + 4) _ D.Q hQ Wl (by omega) (by omega) hbx (HDl.out.qat (s + 4) (by omega))) belowK_t (belowK_b (by omega)) (Below.refl _ _) (fun _ => rfl)
      (fun pre W => (∀ x ∈ pre, x.2.at_ ≠ at_) ∧ Below (s + 4) Wl W)
      (fun c pre W => (c = .ret ∧ ∃ ini last, pre = ini ++ [last] ∧ (∀ x ∈ ini, x.2.at_ ≠ at_) ∧ last.2.at_ = at_ ∧ W.rangeAt (s + 1) 0 (scF last.2.s) ∧ W.cell? ⟨s + 1 + 1, 0, none⟩ = some (.int .i64 0)) ∧ Below s w W)
      (OwnFrom.and (Own.from (fun t A B row hs hg hr => hs) _) (ownFrom_below (by omega) (by omega)))
      (fun c => OwnFrom.and (Own.from (fun t A B row hs hg hr => by obtain ⟨hc, ini, last, e1, e2, e3, e4, e5⟩ := hs; exact ⟨hc, ini, last, e1, e2, e3, fun j v hv => cell_kept (e4 j v hv) hg hr, cell_kept e5 hg hr⟩) _) (ownFrom_below (by omega) (by omega)))
      ⟨by simp, Below.refl _ _⟩
      (fun x a' W => ∃ Bx, s + 4 ≤ Bx ∧ W.rangeAt Bx 0 (wrF x.2) ∧ a' = { tmps := #[.pointer (some ⟨p, 0, none⟩), .int .i64 at_, undef, .pointer (some ⟨s, 0, none⟩), .pointer (some ⟨s + 1, 0, none⟩), .pointer (some ⟨s + 1 + 1, 0, none⟩), .int .i64 0, undef, .pointer (some ⟨Bx, 0, none⟩), .pointer (some ⟨p, 0, none⟩), .int .i64 at_, .int .i64 0, .int .i64 0, .bool false, undef, undef, .pointer (some ⟨p, 0, none⟩), .pointer (some ⟨p, 0, none⟩), .pointer (some ⟨p, 3, none⟩), .slice sq D.Q.length cq, .func (.func 39) #[] #[.pointer (some ⟨s + 3, 0, none⟩)], .int .i64 (x.1 : Int), .agg (wrF x.2).toArray, undef, undef, undef, undef, undef, undef, undef, undef, undef, undef, undef, undef, undef], defers := [] })
      (fun x a' t A B row hs hg hr => by obtain ⟨Bx, h1, h2, h3⟩ := hs; exact ⟨Bx, h1, fun j v hv => cell_kept (h2 j v hv) hg (fun r e => (hr r e).2), h3⟩)
      ?assign ?body ?done ?stop
    case assign =>
      intro l pre x W K hi hK
      have hzw := zero_wr
      have HK := Lib.hid hK
      clear hK
      unfold encB
      obtain ⟨cs, hcs, hcl, hc1⟩ : ∃ cs : List Value, wrF x.2 = cs ∧ cs.length = 129 ∧ ∀ v ∈ cs, v.oneCell' = true := ⟨_, rfl, wrF_len _, wrF_one _⟩
      obtain ⟨z, hzc, hzl2⟩ : ∃ z : List Value, wrF wr0 = z ∧ z.length = 129 := ⟨_, rfl, wrF_len _⟩
      rw [hzc] at hzw
      rw [hcs]
      have hthere := there_new W z.toArray 71 (n := 129) (by simp [hzl2])
      have hbW : Below (s + 4) W (W.alloc (.cells z.toArray 71)) := (Below.refl _ W).alloc (by have := hi.2.size; omega) _
      have hW4 : s + 4 ≤ W.heap.size := by have := hi.2.size; omega
      gi_wp2_with (first
        | (refine wpListIn_store_mid rfl 71 (.tmp 8) (.tmp 22) rfl W.heap.size 0 cs.toArray rfl rfl (by simp only [List.size_toArray]; rw [hcl]; exact hthere) (by simp only [List.size_toArray]; rw [hcl]; exact size_wr) (all_oneCell_toArray hc1) ?_))
      refine HK.out _ _ (((KeepsOthers.alloc _ _).trans (keeps_setCells _ _ _ _)).from _) (below_setCells hbW hW4 hW4) ⟨hi.1, below_setCells (hi.2.trans hbW) (by omega) hW4⟩ ⟨W.heap.size, hW4, ?_, by rw [hcs]⟩
      rw [hcs]
      exact World.rangeAt_setCells_same _ _ _ _ (by rw [hcl]; exact hthere)
    case body =>
      rintro l pre x a' W hl ⟨r, hr⟩ ⟨hp, hB⟩ ⟨Bx, hBx, hrow, rfl⟩ hlt
      have c0 : W.cell? ⟨Bx, 0, none⟩ = some (.int .i64 x.2.at_) := hrow 0 _ rfl
      have hsec : W.rangeAt Bx 1 (scF x.2.s) := fun j v hv => by
        have := hrow (1 + j) v (by unfold wrF; rw [Nat.add_comm, List.getElem?_cons_succ]; exact hv)
        rw [Nat.zero_add] at this; exact this
      have h3w := hB.cell (p := ⟨s, 0, none⟩) (by show s < s + 4; omega)
      have hc3 : W.cell? ⟨s, 0, none⟩ = some (.int .i64 at_) := h3w.trans (cell_row H3l.out 0)
      have h4w : W.heap[s + 1]? = some (.cells zs.toArray 31 (0, 0)) := (hB.block (s + 1) (by omega)).trans H4l.out
      have h5w : W.heap[s + 1 + 1]? = some (.cells #[.int .i64 0] 24 (0, 0)) := (hB.block (s + 1 + 1) (by omega)).trans H5l.out
      have hc5 : W.cell? ⟨s + 1 + 1, 0, none⟩ = some (.int .i64 0) := cell_row h5w 0
      have hBw : Below s w W := HBl.out.trans (hB.mono (by omega))
      clear h3w
      by_cases hx : x.2.at_ = at_
      · obtain ⟨r1, r2, r3, r4⟩ := st_facts (cs := scF x.2.s) h4w h5w (by rw [scF_len, hzl]) hBw
        have hkeep := keeps_setCells (s + 1) (scF x.2.s) 0 W
        obtain ⟨W1, hW1⟩ : ∃ W1, W.setCells (s + 1) 0 (scF x.2.s) = W1 := ⟨_, rfl⟩
        rw [hW1] at r1 r2 r3 r4 hkeep
        rw [hx] at c0
        gi_wp2_with (first
          | (refine wpListIn_load_mid rfl 31 (.tmp 27) rfl Bx 1 rfl (scF x.2.s) _ hsec Try.underlying31 rfl (by rw [scF_len]; exact size_sec) ?_)
          | (refine wpListIn_store_mid rfl 31 (.tmp 4) (.tmp 28) rfl (s + 1) 0 (scF x.2.s).toArray rfl rfl (there_of h4w (by simp [scF_len, hzl])) (by simp only [List.size_toArray]; rw [scF_len]; exact size_sec) (all_oneCell_toArray (scF_one _)) ?_; change wpListIn _ _ _ _ _ _ _ (W.setCells (s + 1) 0 (scF x.2.s)); rw [hW1]))
        obtain ⟨e1, e2, e3⟩ := end_facts (v := .int .i64 0) r1 r2 r4 (by omega)
        exact ⟨(hkeep.trans (KeepsOthers.setCell _ _ _)).from _, ⟨rfl, pre, x, rfl, hp, hx, e1, e2⟩, e3⟩
      · have hxf : (x.2.at_ == at_) = false := by simpa using hx
        gi_wp2
        exact ⟨KeepsFrom.refl _ _, Below.refl _ _, ⟨fun q hq => (List.mem_append.1 hq).elim (hp q) (fun e => by simp at e; subst e; exact hx), hB⟩⟩
    case done =>
      rintro D' ys W hD rfl ⟨hne, hB⟩ hK
      obtain ⟨i, hi⟩ : ∃ i : Nat, at_ = (i : Int) := ⟨at_.toNat, by omega⟩
      have hlw := lastW_none hne
      have hgS : D.S[i]? = some (D.S.getD i sc0) := by rw [List.getD_eq_getElem?_getD, List.getElem?_eq_getElem (by omega)]; rfl
      have hSr : Sr = D.S.getD i sc0 := by rw [HRS.out, hlw, hi]; rfl
      have hDW := HDl.out.below (by rw [hszl]; exact hB)
      have hrow := hDW.sec hgS
      obtain ⟨d0, d1, d2, d3, d4⟩ := hDW.cells
      rw [← hSr] at hrow
      have h3w := hB.cell (p := ⟨s, 0, none⟩) (by show s < s + 4; omega)
      have hc3 : W.cell? ⟨s, 0, none⟩ = some (.int .i64 at_) := h3w.trans (cell_row H3l.out 0)
      have h4w : W.heap[s + 1]? = some (.cells zs.toArray 31 (0, 0)) := (hB.block (s + 1) (by omega)).trans H4l.out
      have h5w : W.heap[s + 1 + 1]? = some (.cells #[.int .i64 0] 24 (0, 0)) := (hB.block (s + 1 + 1) (by omega)).trans H5l.out
      have hBw : Below s w W := HBl.out.trans (hB.mono (by omega))
      have HKD := Lib.hid hK
      have hth := there_of h4w (n := 128) (by simp [hzl])
      have hu := Try.underlying31
      obtain ⟨cs, hcs, hcl, hone⟩ : ∃ cs : List Value, scF Sr = cs ∧ cs.length = 128 ∧ ∀ v ∈ cs, v.oneCell' = true := ⟨_, rfl, scF_len _, scF_one _⟩
      have hsz : (Try.prog.info? 31).map (·.size) = some cs.length := by rw [hcl]; exact size_sec
      rw [hcs] at hrow
      rw [hi] at hc3
      have hi0 : (0 : Int) ≤ (i : Int) := by omega
      have hi1 : (i : Int) < (D.S.length : Int) := by omega
      clear h3w d0 d1 d3 d4 hK hne hlw hgS hDW
      refine hK0 _ _ (wpIn_wide.2 ?_)
      dsimp only
      go_upto_region 8 with fail
      have f0 : RegS p gS s i D.S.length D.cap cs W.drew := RegS.drew ⟨d2, hc3, hrow, hth, cell_row h5w 0, free_row h5w 0⟩
      have f1 := f0.store hplt.1 hplt.2
      have f2 := f1.cell hplt.1 hplt.2
      have g1 := World.rangeAt_setCells_same W.drew (s + 1) 0 cs (by rw [hcl]; exact f0.2.2.2.1)
      have g2 : Below s w (W.drew.setCells (s + 1) 0 cs) := below_setCells hBw.drew (by omega) (by omega)
      obtain ⟨e1, e2, e3⟩ := end_facts (v := .int .i64 0) g1 f1.2.2.2.2.1 g2 (by omega)
      go_region_held3 (fun w' => w'.cell? ⟨p, 2, none⟩ = some (.slice (some ⟨gS, 0, none⟩) D.S.length D.cap) ∧ w'.cell? ⟨s, 0, none⟩ = some (.int .i64 (i : Int)) ∧ w'.rangeAt gS (i * 128) cs ∧ w'.there (s + 1) 0 128 ∧ w'.cell? ⟨s + 1 + 1, 0, none⟩ = some (.int .i64 0) ∧ w'.frozen? ⟨s + 1 + 1, 0, none⟩ = false) (first | exact f0 | exact f1 | exact f2 | trace_state)
        (first
          | (trace_state; fail))
      clear f0 f1 f2 g1 g2
      have hK' := (((KeepsOthers.drew W).trans (keeps_setCells (s + 1) cs 0 _)).trans (KeepsOthers.setCell _ ⟨s + 1 + 1, 0, none⟩ (.int .i64 0))).same D' _ HKD.out rfl
      revert hK' e1 e2 e3
      generalize (W.drew.setCells (s + 1) 0 cs).setCell ⟨s + 1 + 1, 0, none⟩ (.int .i64 0) = W2
      intro e1 e2 e3 hK'
      go_wp2
      refine ⟨by simp, .inl ⟨_, _, rfl, run_takeDeferred hK', ?_⟩⟩
      have f4 : (W2.putObj D' (.deferred none)).rangeAt (s + 1) 0 cs := fun j v hv => cell_kept (e1 j v hv) (grownBy_putObj' _ D' (.deferred none)) (fun r e => by cases e; exact ⟨_, hK', rfl⟩)
      have f5 := cell_kept e2 (grownBy_putObj' _ D' (.deferred none)) (fun r e => by cases e; exact ⟨_, hK', rfl⟩)
      have hld := run_loadVar_mid _ (s + 1) 0 31 cs _ f4 Try.underlying31 rfl hsz
      refine ⟨.tuple #[.agg cs.toArray, .int .i64 0], results_cell_cell Try.results14 rfl rfl hld (load_errno f5), by rw [← hcs]; rfl, ?_⟩
      rw [hs]
      exact e3.trans (belowK_b (w := w) (by omega) W2 D' _ _ (by omega) hK' rfl rfl)
    case stop =>
      rintro D' c pre W hD ⟨k, hk, rfl⟩ ⟨⟨rfl, ini, last, e1, e2, e3, e4, e5⟩, hB⟩ hK
      gi_wp2
      refine ⟨by simp, .inl ⟨_, _, rfl, run_takeDeferred hK, ?_⟩⟩
      obtain ⟨k', rfl⟩ : ∃ k', k = k' + 1 := by
        cases k with
        | zero => simp [uptoB] at e1
        | succ k' => exact ⟨k', rfl⟩
      rw [uptoB_succ] at e1
      obtain ⟨rfl, e6⟩ := List.append_inj' e1 rfl
      obtain rfl : bk D.Q k' = last := by simpa using e6
      have hlw := lastW_some (by omega) e2 e3
      have hSr : Sr = (bk D.Q k').2.s := by rw [HRS.out, hlw]; rfl
      have f4 : (W.putObj D' (.deferred none)).rangeAt (s + 1) 0 (scF (bk D.Q k').2.s) := fun j v hv => cell_kept (e4 j v hv) (grownBy_putObj' _ D' (.deferred none)) (fun r e => by cases e; exact ⟨_, hK, rfl⟩)
      have f5 := cell_kept e5 (grownBy_putObj' _ D' (.deferred none)) (fun r e => by cases e; exact ⟨_, hK, rfl⟩)
      have hld := run_loadVar_mid _ (s + 1) 0 31 (scF (bk D.Q k').2.s) _ f4 Try.underlying31 rfl (by rw [scF_len]; exact size_sec)
      refine ⟨.tuple #[.agg (scF (bk D.Q k').2.s).toArray, .int .i64 0], results_cell_cell Try.results14 rfl rfl hld (load_errno f5), by rw [hSr]; rfl, ?_⟩
      rw [hs]
      exact hB.trans (belowK_b (w := w) (by omega) W D' _ _ (by omega) hK rfl rfl)
  · have hne : (mayE D at_ != 0) = true := by simpa using hE0
    have hRS : readS D at_ = sc0 := by unfold readS; rw [if_neg hE0]
    rw [hRS]
    generalize mayE D at_ = E at *
    obtain ⟨r1, r2, r3, r4⟩ := st_facts (cs := zs) H4.out H5.out rfl HB0.out
    obtain ⟨W1, hW1⟩ : ∃ W1, W0.setCells (w.heap.size + 1) 0 zs = W1 := ⟨_, rfl⟩
    rw [hW1] at r1 r2 r3 r4
    gi_wp2_with (first
      | (refine ⟨trivial, ?_⟩; gi_at_call 25; rw [HW0.out]; refine (callsIn_wide.2 HMY.out).mono ?_; rintro e w' ⟨rfl, rfl⟩)
      | (refine wpListIn_store_mid rfl 31 (.tmp 4) (.tmp 14) rfl (w.heap.size + 1) 0 zs.toArray rfl rfl (there_of H4.out (by simp)) (by simp only [List.size_toArray]; rw [hzl]; exact size_sec) (all_oneCell_toArray hz1) ?_; change wpListIn _ _ _ _ _ _ _ (W0.setCells (w.heap.size + 1) 0 zs); rw [hW1]))
    obtain ⟨e1, e2, e3⟩ := end_facts (v := .int .i64 E) r1 r2 r4 (Nat.le_refl _)
    have hld := run_loadVar_mid _ (w.heap.size + 1) 0 31 zs _ e1 Try.underlying31 rfl (by rw [hzl]; exact size_sec)
    exact ⟨.tuple #[.agg zs.toArray, .int .i64 E], results_cell_cell Try.results14 rfl rfl hld (load_errno e2), by rw [← hzs]; rfl, e3⟩
end Go.Proofs.Ytiehfaiadhhndaa
