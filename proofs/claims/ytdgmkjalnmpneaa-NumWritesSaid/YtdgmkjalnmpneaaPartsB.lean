/-
  NumWrites: the walks of few, run, Sector's other side, Close.
-/
import Derived.Test.YtdgmkjalnmpneaaParts
import Derived.Test.YtdgmkjalnmpneaaLaw01
import Derived.Test.YtdgmkjalnmpneaaZeros
import Derived.StillTailTactics
import Derived.Deep.QuietTactic
import Derived.BigQuiet
import Derived.Deep.RegionHeld3
namespace Go.Proofs.Ytdgmkjalnmpneaa
open Go.RowKit
set_option linter.unusedVariables false
set_option linter.unusedSimpArgs false
theorem infoPart : (Try.prog.info? 52).map (fun i => (i.zero, i.size, i.bytes)) = some (some (.agg #[.int .i64 0, .int .u64 0, .bool false, .slice none 0 0]), 4, 48) := by kernel_rfl
theorem rd_row {w : World} {g k : Nat} {t : TypeId} {cs : List Value} (h : w.heap[g]? = some (.cells cs.toArray t (0, 0))) (hk : cs.length = k) (c : Nat) : Rd w (.slice (some ⟨g, 0, none⟩) 1 c) k 1 cs :=
  ⟨by rw [hk, Nat.one_mul], .inr ⟨_, c, rfl, fun j u hu => by rw [add_at, cell_row h, Nat.zero_add]; simpa using hu⟩⟩
/-- Parts in a slice, each good. -/
def PtsAt (w : World) (v : Value) (L : List Pt) : Prop := ∃ A c, v = .slice A L.length c ∧ L.length ≤ 140737488355328 ∧ ReadAt w A ptF 4 L ∧ ∀ x ∈ L, PtOk w x
theorem PtsAt.below {w w' : World} {v : Value} {L : List Pt} (h : PtsAt w v L) (hb : Below w.heap.size w w') : PtsAt w' v L := by
  obtain ⟨A, c, h1, h2, h3, h4⟩ := h
  exact ⟨A, c, h1, h2, h3.below ptF_len hb, fun x hx => (h4 x hx).below hb⟩
theorem own_readAt {w : World} {base E : Nat} {v : Value} {L : List Pt} (h : w.ownsRow base E 4 v L.length (rowsOf ptF L)) : ∃ A c, v = .slice A L.length c ∧ ReadAt w A ptF 4 L := by
  rcases h.2 with ⟨h1, h2⟩ | ⟨g, cap, cur, h1, h2, h3, h4, h5, h6, h7⟩
  · refine ⟨none, 0, by rw [h1, h2], fun hne => ?_⟩
    exact absurd (List.eq_nil_of_length_eq_zero h2) hne
  · have hA : ArrAt w g E ptF 4 L cap := (ArrAt.of_own (c := cap) (by rw [← h1]; exact h) rfl).1
    exact ⟨some ⟨g, 0, none⟩, cap, h1, fun _ => ⟨g, 0, rfl, fun i x hx j hj => by rw [Nat.zero_add]; exact hA.cell ptF_len i j x hx hj⟩⟩
theorem part_cells {w : World} {b o : Nat} {L : List Pt} {i : Nat} {x : Pt} (h : ∀ i x, L[i]? = some x → ∀ j, j < 4 → w.cell? ⟨b, o + i * 4 + j, none⟩ = (ptF x)[j]?) (hi : L[i]? = some x) :
    w.cell? ⟨b, o + i * 4, none⟩ = some (.int .i64 x.width) ∧ w.cell? ⟨b, o + i * 4 + 1, none⟩ = some (.int .u64 (x.num : Int)) ∧ w.cell? ⟨b, o + i * 4 + 2, none⟩ = some (.bool x.raw) ∧ w.cell? ⟨b, o + i * 4 + 3, none⟩ = some (ptV x) :=
  ⟨h i x hi 0 (by decide), h i x hi 1 (by decide), h i x hi 2 (by decide), h i x hi 3 (by decide)⟩
theorem cut_cells (x : Pt) : (200 < x.bs.length ∧ cutP x = { x with bs := x.bs.take 200 }) ∨ (x.bs.length ≤ 200 ∧ cutP x = x) := by
  unfold cutP
  split
  · exact .inl ⟨by assumption, rfl⟩
  · exact .inr ⟨by omega, rfl⟩
set_option maxHeartbeats 4000000 in
set_option maxRecDepth 10000 in
theorem few_any (v : Value) (L : List Pt) (w : World) (h : PtsAt w v L) :
    Calls Try.prog 15 #[v] w fun e w' => ∃ v', e = .returned v' ∧ PtsAt w' v' (fewL L (min 40 L.length)) ∧ Below w.heap.size w w' := by
  obtain ⟨A, c, rfl, hlen, hL, hok⟩ := h
  have HL := Lib.hid hL
  have HOK := Lib.hid hok
  clear hL hok
  go_enter Try.func15, Try.ntmps15
  go_wp2
  go_loopw [3, 4] (fun v i wr => ∃ j : Nat, j ≤ L.length ∧ j ≤ 40 ∧ i = .int .i64 (j : Int) ∧ Hid (wr.ownsRow w.heap.size 52 4 v j (rowsOf ptF (fewL L j))) ∧ Hid (Below w.heap.size w wr)) (fun _ i _ => (40 - intOf i).toNat)
  case atStart => exact ⟨0, by omega, by omega, by rfl, Lib.hid (World.ownsRow_nil _ _ _ _), Lib.hid (Below.refl _ _)⟩
  case round =>
    obtain ⟨j, hj, hj40, rfl, HO, HB⟩ := hrel
    by_cases hlt : j < L.length ∧ j < 40
    · obtain ⟨h1, h2⟩ := hlt
      obtain ⟨x, hx⟩ : ∃ x, L[j]? = some x := ⟨_, List.getElem?_eq_getElem h1⟩
      obtain ⟨b, o, hA, hcell⟩ := HL.out (fun e => by rw [e] at h1; exact absurd h1 (Nat.not_lt_zero _))
      subst hA
      have hxb : x.bs.length ≤ 9223372036854775807 := (HOK.out x (List.mem_of_getElem? hx)).2.2.2.1
      obtain ⟨q0, q1, q2, q3⟩ := part_cells (w := wr) (fun i x hx j hj => by
        have hc := hcell i x hx j hj
        rw [List.getElem?_eq_getElem (by rw [ptF_len]; exact hj)] at hc ⊢
        exact (HB.out.cell (p := ⟨b, _, none⟩) (World.block_lt_of_cell? w _ hc)).trans hc) hx
      have hS := fewL_succ hx
      have HX := Lib.hid hx
      clear hcell hx
      rcases cut_cells x with ⟨hc1, hc2⟩ | ⟨hc1, hc2⟩
      · have hcc : 200 ≤ x.c := by
          rcases (HOK.out x (List.mem_of_getElem? HX.out)).2.2.2.2 with ⟨e0, _⟩ | ⟨b', o', c', e1, e2, e3, e4⟩
          · rw [e0] at hc1; simp at hc1
          · simp only [ptV, Value.slice.injEq, true_and] at e1
            omega
        have hyl : (x.bs.take 200).length = 200 := by rw [List.length_take]; omega
        have hX : ptF (cutP x) = [.int .i64 x.width, .int .u64 (x.num : Int), .bool x.raw, .slice x.A 200 x.c] := by rw [hc2]; unfold ptF ptV; dsimp only; rw [hyl]
        have hb1 := HB.out.alloc HB.out.size (.cells #[.int .i64 x.width, .int .u64 (x.num : Int), .bool x.raw, .slice x.A 200 x.c] 52 (0, 0))
        have hb2 := hb1.alloc (by simp; have := HB.out.size; omega) (.cells #[.int .i64 x.width, .int .u64 (x.num : Int), .bool x.raw, .slice x.A 200 x.c] 52 (0, 0))
        have HO6 := Lib.hid ((HO.out.alloc (.cells #[.int .i64 x.width, .int .u64 (x.num : Int), .bool x.raw, .slice x.A 200 x.c] 52 (0, 0))).alloc (.cells #[.int .i64 x.width, .int .u64 (x.num : Int), .bool x.raw, .slice x.A 200 x.c] 52 (0, 0)))
        have hrd := rd_row (k := 4) (cs := [.int .i64 x.width, .int .u64 (x.num : Int), .bool x.raw, .slice x.A 200 x.c]) (new_heap (wr.alloc (.cells #[.int .i64 x.width, .int .u64 (x.num : Int), .bool x.raw, .slice x.A 200 x.c] 52 (0, 0))) (.cells #[.int .i64 x.width, .int .u64 (x.num : Int), .bool x.raw, .slice x.A 200 x.c] 52 (0, 0))) rfl 1
        rw [World.size_alloc] at hrd
        have HRD := Lib.hid hrd
        have HB2 := Lib.hid hb2
        have HX2 := Lib.hid hX
        have hone := ptF_one (cutP x)
        rw [hX] at hone
        have hsz : w.heap.size ≤ wr.heap.size + 2 := by have := HB.out.size; omega
        clear hb1 hb2 hrd hX
        unfold ptV at q3
        go_wp2_with (at_builtin; refine wpList_append_rd _ rfl _ _ 40 rfl w.heap.size 52 (.agg #[.int .i64 0, .int .u64 0, .bool false, .slice none 0 0]) 4 48 Try.underlying40 infoPart rfl (by decide) _ _ _ rfl HO6.out _ 1 [.int .i64 x.width, .int .u64 (x.num : Int), .bool x.raw, .slice x.A 200 x.c] rfl HRD.out hone ?c2 (by decide) ?c3 ?_; (case c2 => omega); (case c3 => simp; omega); intro v' w1 hown1 hbel1 hg1; have HO1 := Lib.hid hown1; have HB1 := Lib.hid (HB2.out.trans hbel1); clear hown1 hbel1 hg1)
        refine ⟨⟨j + 1, by omega, by omega, by go_num, Lib.hid ?_, HB1⟩, by simp [intOf]; omega⟩
        rw [hS, rowsOf_snoc, HX2.out]
        exact HO1.out
      · have hcc : ¬ (200 < x.bs.length) := by omega
        have hX : ptF (cutP x) = [.int .i64 x.width, .int .u64 (x.num : Int), .bool x.raw, .slice x.A x.bs.length x.c] := by rw [hc2]; rfl
        have hb1 := HB.out.alloc HB.out.size (.cells #[.int .i64 x.width, .int .u64 (x.num : Int), .bool x.raw, .slice x.A x.bs.length x.c] 52 (0, 0))
        have hb2 := hb1.alloc (by simp; have := HB.out.size; omega) (.cells #[.int .i64 x.width, .int .u64 (x.num : Int), .bool x.raw, .slice x.A x.bs.length x.c] 52 (0, 0))
        have HO6 := Lib.hid ((HO.out.alloc (.cells #[.int .i64 x.width, .int .u64 (x.num : Int), .bool x.raw, .slice x.A x.bs.length x.c] 52 (0, 0))).alloc (.cells #[.int .i64 x.width, .int .u64 (x.num : Int), .bool x.raw, .slice x.A x.bs.length x.c] 52 (0, 0)))
        have hrd := rd_row (k := 4) (cs := [.int .i64 x.width, .int .u64 (x.num : Int), .bool x.raw, .slice x.A x.bs.length x.c]) (new_heap (wr.alloc (.cells #[.int .i64 x.width, .int .u64 (x.num : Int), .bool x.raw, .slice x.A x.bs.length x.c] 52 (0, 0))) (.cells #[.int .i64 x.width, .int .u64 (x.num : Int), .bool x.raw, .slice x.A x.bs.length x.c] 52 (0, 0))) rfl 1
        rw [World.size_alloc] at hrd
        have HRD := Lib.hid hrd
        have HB2 := Lib.hid hb2
        have HX2 := Lib.hid hX
        have hone := ptF_one (cutP x)
        rw [hX] at hone
        have hsz : w.heap.size ≤ wr.heap.size + 2 := by have := HB.out.size; omega
        clear hb1 hb2 hrd hX
        unfold ptV at q3
        go_wp2_with (at_builtin; refine wpList_append_rd _ rfl _ _ 40 rfl w.heap.size 52 (.agg #[.int .i64 0, .int .u64 0, .bool false, .slice none 0 0]) 4 48 Try.underlying40 infoPart rfl (by decide) _ _ _ rfl HO6.out _ 1 [.int .i64 x.width, .int .u64 (x.num : Int), .bool x.raw, .slice x.A x.bs.length x.c] rfl HRD.out hone ?c2 (by decide) ?c3 ?_; (case c2 => omega); (case c3 => simp; omega); intro v' w1 hown1 hbel1 hg1; have HO1 := Lib.hid hown1; have HB1 := Lib.hid (HB2.out.trans hbel1); clear hown1 hbel1 hg1)
        refine ⟨⟨j + 1, by omega, by omega, by go_num, Lib.hid ?_, HB1⟩, by simp [intOf]; omega⟩
        rw [hS, rowsOf_snoc, HX2.out]
        exact HO1.out
    · have hex : ∀ {Q : Prop}, (¬ (j < L.length) → Q) → (j < L.length ∧ ¬ (j < 40) → Q) → Q := fun h1 h2 => by
        by_cases h : j < L.length
        · exact h2 ⟨h, fun e => hlt ⟨h, e⟩⟩
        · exact h1 h
      have hjm : j = min 40 L.length := by omega
      obtain ⟨A', c', rfl, hr'⟩ := own_readAt (L := fewL L j) (by rw [fewL_len L j hj]; exact HO.out)
      have HFin : Hid (PtsAt wr (.slice A' (fewL L (min 40 L.length)).length c') (fewL L (min 40 L.length))) := Lib.hid (by
        rw [← hjm]
        refine ⟨A', c', rfl, by rw [fewL_len L j hj]; omega, hr', fun x hx => ?_⟩
        obtain ⟨y, hy, rfl⟩ := List.mem_map.1 hx
        exact (cut_ok ((HOK.out y (List.mem_of_mem_take hy)).below HB.out)).1)
      clear hr'
      refine hex (fun h1 => ?_) (fun ⟨h1, h2⟩ => ?_)
      all_goals
        clear hex hlt
        go_wp2
        go_ret
        exact ⟨_, rfl, HFin.out, HB.out⟩
/-! ### run -/
def SecTo (w : World) (s : WSt) (e : Ending) (w' : World) : Prop := e = .returned (.tuple #[secV (wSec s), .int .i64 s.2]) ∧ Below w.heap.size w w'
set_option maxHeartbeats 4000000 in
theorem wsector_bad (g : Nat) (l : List UInt8) (e : Int) (w : World) (he : e ≠ 0) (h : WrAt w g (l, e)) :
    Calls Try.prog 30 #[.pointer (some ⟨g, 0, none⟩)] w (SecTo w (l, e)) := by
  have hws : wSec (l, e) = List.replicate 128 0 := by unfold wSec; rw [if_neg he]
  unfold SecTo
  rw [hws]
  have c2 : w.cell? ⟨g, 129, none⟩ = some (.int .i64 e) := h.c129
  have hb : (e != 0) = true := by simpa using he
  have hz := zero_sec
  have hgl : g < w.heap.size := World.block_lt_of_cell? w _ c2
  clear h
  obtain ⟨cs, hcs, hcl, hone⟩ : ∃ cs : List Value, secV (List.replicate 128 0) = .agg cs.toArray ∧ cs.length = 128 ∧ ∀ v ∈ cs, v.oneCell' = true := ⟨bvs (List.replicate 128 0), rfl, by simp, bvs_oneCell _⟩
  have hz2 : ∀ w, (zeroValue 43).run Try.prog w = .ok (.agg cs.toArray) w := fun w => by rw [hz w, zArr_sec, hcs]
  rw [hcs]
  clear hz hcs
  have hu := Try.underlying43
  have hi : (Try.prog.info? 43).map (·.size) = some cs.length := by rw [hcl]; exact size_sec
  have hne := World.new_ne w ⟨g, 129, none⟩ c2
  go_enter Try.func30, Try.ntmps30
  go_upto_region 2 with fail
  have hb1 := (Below.refl w.heap.size w).alloc (Nat.le_refl _) (.cells cs.toArray 43 (0, 0))
  have hth : (w.alloc (.cells cs.toArray 43 (0, 0))).there w.heap.size 0 128 := fun j hj => by
    have := cell_row (new_heap w (.cells cs.toArray 43 (0, 0))) (0 + j)
    refine ⟨by rw [this]; simp; omega, free_row (new_heap w _) _⟩
  have hc1 : (w.alloc (.cells cs.toArray 43 (0, 0))).cell? ⟨g, 129, none⟩ = some (.int .i64 e) := (hb1.cell (p := ⟨g, 129, none⟩) hgl).trans c2
  have hpg : w.heap.size ≠ g := by omega
  have hlt : w.heap.size < (w.alloc (.cells cs.toArray 43 (0, 0))).heap.size := by simp
  revert hth hc1 hb1 hpg hlt
  generalize w.alloc (.cells cs.toArray 43 (0, 0)) = w1
  generalize hp : w.heap.size = p
  intro hb1 hth hc1 hpg hlt
  have hth2 : w1.drew.there p 0 cs.length := by rw [hcl]; exact (World.there_drew _ _ _ _).2 hth
  have hst : (w1.drew.setCells p 0 cs).cell? ⟨g, 129, none⟩ = some (.int .i64 e) ∧ (w1.drew.setCells p 0 cs).there p 0 128 :=
    ⟨(World.cell?_setCells_out p cs 0 w1.drew ⟨g, 129, none⟩ (fun h => absurd h (fun e => hpg e.symm))).trans hc1, World.there_setCells ((World.there_drew _ _ _ _).2 hth) _ _ _⟩
  have hrange := World.rangeAt_setCells_same w1.drew p 0 cs hth2
  have hbel : Below p w (w1.drew.setCells p 0 cs) := setCells_below hb1.drew
  go_region_held3 (fun w' => w'.cell? ⟨g, 129, none⟩ = some (.int .i64 e) ∧ w'.there p 0 128) (first | exact ⟨hc1, (World.there_drew _ _ _ _).2 hth⟩ | exact hst | trace_state)
    (first
      | (trace_state; fail))
  all_goals
    go_wp2
    refine bodyPost_ret (v := .tuple #[.agg cs.toArray, .int .i64 e]) (results_cell2 Try.results30 rfl rfl ?_) rfl ⟨rfl, hp ▸ hbel⟩
    exact run_loadVar_mid _ p 0 _ cs _ hrange hu rfl hi
theorem wsector_any (g : Nat) (s : WSt) (w : World) (h : WrAt w g s) :
    Calls Try.prog 30 #[.pointer (some ⟨g, 0, none⟩)] w (SecTo w s) := by
  obtain ⟨l, e⟩ := s
  by_cases he : e = 0
  · subst he
    unfold SecTo wSec
    rw [if_pos rfl]
    exact wsector_ok g l w h
  · exact wsector_bad g l e w he h
def ptZero : Pt := ⟨0, 0, false, none, 0, []⟩
theorem zero_writer (w : World) : (zeroValue 62).run Try.prog w = .ok (.agg (wrCells ([], 0))) w := by
  have h : (Try.prog.info? 62).map (fun i => (i.zero, i.size)) = some (some (.agg (wrCells ([], 0))), 130) := by kernel_rfl
  exact (zero_of_info h).1 w
theorem wr_new (w : World) : WrAt (w.alloc (.cells (wrCells ([], 0)) 62 (0, 0))) w.heap.size ([], 0) := ⟨by simp, new_heap w _⟩
theorem WrAt.below {w w' : World} {g : Nat} {s : WSt} (h : WrAt w g s) (hb : Below w.heap.size w w') : WrAt w' g s := ⟨h.1, (hb.block g (Array.getElem?_eq_some_iff.1 h.2).1).trans h.2⟩
theorem OnlyAt.below {g B : Nat} {w w' : World} (h : OnlyAt g w w') (hB : B ≤ w.heap.size) (hg : B ≤ g) : Below B w w' := ⟨h.1.os, h.1.tape, h.1.output, h.1.size, fun k hk => h.1.block k (by omega) (by simp; omega)⟩
/-- The cells of a boxed part. -/
def PtAt (w : World) (b : Nat) (x : Pt) : Prop := w.cell? ⟨b, 0, none⟩ = some (.int .i64 x.width) ∧ w.cell? ⟨b, 1, none⟩ = some (.int .u64 (x.num : Int)) ∧ w.cell? ⟨b, 2, none⟩ = some (.bool x.raw) ∧ w.cell? ⟨b, 3, none⟩ = some (ptV x)
def boxP (x : Pt) : Array Value := #[.int .i64 x.width, .int .u64 (x.num : Int), .bool x.raw, ptV x]
theorem PtAt.new (w : World) (x : Pt) : PtAt (w.alloc (.cells #[.int .i64 x.width, .int .u64 (x.num : Int), .bool x.raw, ptV x] 52 (0, 0))) w.heap.size x :=
  ⟨cell_row (new_heap w _) 0, cell_row (new_heap w _) 1, cell_row (new_heap w _) 2, cell_row (new_heap w _) 3⟩
theorem PtAt.below {w w' : World} {b : Nat} {x : Pt} (h : PtAt w b x) (hb : Below w.heap.size w w') : PtAt w' b x :=
  ⟨(hb.cell (p := ⟨b, 0, none⟩) (World.block_lt_of_cell? w _ h.1)).trans h.1, (hb.cell (p := ⟨b, 1, none⟩) (World.block_lt_of_cell? w _ h.2.1)).trans h.2.1, (hb.cell (p := ⟨b, 2, none⟩) (World.block_lt_of_cell? w _ h.2.2.1)).trans h.2.2.1, (hb.cell (p := ⟨b, 3, none⟩) (World.block_lt_of_cell? w _ h.2.2.2)).trans h.2.2.2⟩
set_option maxHeartbeats 4000000 in
set_option maxRecDepth 10000 in
theorem run_any (v : Value) (L : List Pt) (w : World) (h : PtsAt w v L) :
    Calls Try.prog 16 #[v] w (SecTo w (wAll L)) := by
  have HP := Lib.hid h
  obtain ⟨A, c, rfl, hlen, hL, hok⟩ := h
  clear hL hok
  have hz := zero_sec
  have hz2 := zero_writer
  go_enter Try.func16, Try.ntmps16
  go_upto_region 2 with fail
  have hb0 := (Below.refl w.heap.size w).alloc (Nat.le_refl _) (.cells zArr 43 (0, 0))
  have hb1 := hb0.alloc (by simp) (.cells (wrCells ([], 0)) 62 (0, 0))
  have hw1 := wr_new (w.alloc (.cells zArr 43 (0, 0)))
  rw [World.size_alloc] at hw1
  have hbox := old_heap (new_heap w (.cells zArr 43 (0, 0))) ((Below.refl _ (w.alloc (.cells zArr 43 (0, 0)))).alloc (Nat.le_refl _) (.cells (wrCells ([], 0)) 62 (0, 0)))
  clear hb0
  have hp0 : w.heap.size < w.heap.size + 1 := by omega
  revert hb1 hw1 hbox hp0
  generalize (w.alloc (.cells zArr 43 (0, 0))).alloc (.cells (wrCells ([], 0)) 62 (0, 0)) = w1
  generalize w.heap.size + 1 = g
  generalize hp : w.heap.size = p
  intro hb1 hw1 hbox hp0
  go_wp2
  clear hz hz2
  go_loopw [9] (fun i wr => ∃ j : Nat, j ≤ L.length ∧ i = .int .i64 (j : Int) ∧ Hid (WrAt wr g (wAll (L.take j))) ∧ Hid (Below p w wr) ∧ Hid (wr.heap[p]? = some (.cells zArr 43 (0, 0)))) (fun i _ => (L.length - intOf i).toNat)
  case atStart => exact ⟨0, by omega, by rfl, Lib.hid hw1, Lib.hid hb1, Lib.hid hbox⟩
  case round =>
    clear hb1 hw1 hbox
    obtain ⟨j, hj, rfl, HW, HB, HX⟩ := hrel
    by_cases h1 : j < L.length
    · obtain ⟨x, hx⟩ : ∃ x, L[j]? = some x := ⟨_, List.getElem?_eq_getElem h1⟩
      obtain ⟨A', c', hA', _, hL, hok⟩ := HP.out
      simp only [Value.slice.injEq, true_and] at hA'
      obtain ⟨hA1, rfl⟩ := hA'
      subst hA1
      obtain ⟨b, o, hA, hcell⟩ := hL (fun e => by rw [e] at h1; exact absurd h1 (Nat.not_lt_zero _))
      subst hA
      have hpx := hok x (List.mem_of_getElem? hx)
      obtain ⟨q0, q1, q2, q3⟩ := part_cells (w := wr) (fun i x hx j hj => by
        have hc := hcell i x hx j hj
        rw [List.getElem?_eq_getElem (by rw [ptF_len]; exact hj)] at hc ⊢
        exact (HB.out.cell (p := ⟨b, _, none⟩) (hp ▸ World.block_lt_of_cell? w _ hc)).trans hc) hx
      have hS := wAll_succ hx
      have HPX := Lib.hid (hpx.below (hp ▸ HB.out))
      clear hcell hx hL hok hpx
      unfold ptV at q3
      go_upto_region 5 with fail
      clear q0 q1 q2 q3
      have hsz := HB.out.size
      have hb2 := (Below.refl wr.heap.size wr).alloc (Nat.le_refl _) (.cells (boxP x) 52 (0, 0))
      have hP2 := PtAt.new wr x
      have hW2 := HW.out.below hb2
      have hX2 := old_heap HX.out hb2
      have hPX2 := HPX.out.below hb2
      have hB2 := HB.out.trans (hb2.mono (hp ▸ hsz))
      have hgl : g < wr.heap.size := (Array.getElem?_eq_some_iff.1 HW.out.2).1
      obtain ⟨w2, hw2⟩ : ∃ w2, wr.alloc (.cells #[.int .i64 x.width, .int .u64 (x.num : Int), .bool x.raw, .slice x.A x.bs.length x.c] 52 (0, 0)) = w2 := ⟨_, rfl⟩
      have HP2 : Hid (PtAt w2 wr.heap.size x) := Lib.hid (by rw [← hw2]; exact hP2)
      have HW2 : Hid (WrAt w2 g (wAll (L.take j))) := Lib.hid (by rw [← hw2]; exact hW2)
      have HX2 : Hid (w2.heap[p]? = some (.cells zArr 43 (0, 0))) := Lib.hid (by rw [← hw2]; exact hX2)
      have HPX2 : Hid (PtOk w2 x) := Lib.hid (by rw [← hw2]; exact hPX2)
      have HB2 : Hid (Below p w w2) := Lib.hid (by rw [← hw2]; exact hB2)
      have hsz2 : p ≤ w2.heap.size := HB2.out.size |> fun h => by rw [hp] at h; exact h
      rw [hw2]
      clear hP2 hW2 hX2 hPX2 hB2 hw2 hb2 HPX
      generalize wr.heap.size = p6 at *
      obtain ⟨q0, q1, q2, q3⟩ := HP2.out
      unfold ptV at q3
      by_cases hr : x.raw = true
      · rw [hr] at q2
        have hwp : wPart (wAll (L.take j)) x = wBytes (wAll (L.take j)) x.width x.bs := by unfold wPart; rw [if_pos hr]
        have HC := Lib.hid (wbytes_any g (wAll (L.take j)) x.bs (ptV x) x.width w2 HW2.out HPX2.out.2.2.2.2)
        rw [← hwp, ← hS] at HC
        unfold ptV WrTo at HC
        go_wp2_with (go_at_call 28; go_must (refine HC.out.mono ?_; rintro e w3 ⟨rfl, hw3, ho3⟩))
        exact ⟨⟨j + 1, by omega, by go_num, Lib.hid hw3, Lib.hid (HB2.out.trans (ho3.below hsz2 (by omega))), Lib.hid ((ho3.1.block p (Array.getElem?_eq_some_iff.1 HX2.out).1 (by simp; omega)).trans HX2.out)⟩, by simp [intOf]; omega⟩
      · have hr : x.raw = false := by simpa using hr
        rw [hr] at q2
        have hwp : wPart (wAll (L.take j)) x = wNum (wAll (L.take j)) x.width x.num := by unfold wPart; rw [if_neg (by simp [hr])]
        have HC := Lib.hid (wnum_any g (wAll (L.take j)) x.width x.num w2 HPX2.out.2.2.1 HW2.out)
        rw [← hwp, ← hS] at HC
        unfold WrTo at HC
        go_wp2_with (go_at_call 29; go_must (refine HC.out.mono ?_; rintro e w3 ⟨rfl, hw3, ho3⟩))
        exact ⟨⟨j + 1, by omega, by go_num, Lib.hid hw3, Lib.hid (HB2.out.trans (ho3.below hsz2 (by omega))), Lib.hid ((ho3.1.block p (Array.getElem?_eq_some_iff.1 HX2.out).1 (by simp; omega)).trans HX2.out)⟩, by simp [intOf]; omega⟩
    · obtain rfl : j = L.length := by omega
      have hT : L.take L.length = L := List.take_length
      rw [hT] at HW
      have HC := Lib.hid (wsector_any g (wAll L) wr HW.out)
      unfold SecTo at HC
      have hws : (wSec (wAll L)).length = 128 := by
        unfold wSec
        split
        · exact zpad_length _ _ (wAll_le L)
        · simp
      generalize wAll L = s at *
      generalize hS0 : wSec s = S at *
      go_wp2_with (first
        | (go_at_call 30; go_must (refine HC.out.mono ?_; rintro e w4 ⟨rfl, hb4⟩; have hx4 := old_heap HX.out hb4))
        | (refine wpList_store_row rfl 43 (.tmp 2) (.tmp 27) rfl p zArr _ 43 rfl rfl hx4 (by rw [secV_size, hws]; exact size_sec) (by rw [secV_size, hws, zArr_size]) (sec_one _) ?_))
      have hh := setRow_heap w4 p _ (bvs S).toArray _ _ hx4
      have hrg : (w4.setRow p (bvs S).toArray).rangeAt p 0 (bvs S) := fun j v hv => by rw [cell_row hh]; simpa using hv
      have hld := run_loadVar_mid _ p 0 43 (bvs S) _ hrg Try.underlying43 rfl (by rw [bvs_length, hws]; exact size_sec)
      have hpw : p ≤ wr.heap.size := by have := HB.out.size; rw [hp] at this; exact this
      have hpw4 : p ≤ w4.heap.size := Nat.le_trans hpw hb4.size
      refine bodyPost_ret (v := .tuple #[secV S, .int .i64 s.2]) (results_cell2 Try.results16 rfl rfl hld) rfl ?_
      unfold SecTo
      rw [hS0, hp]
      exact ⟨rfl, (HB.out.trans (hb4.mono hpw)).trans (((OnlyAt.refl p w4).row (bvs S).toArray).below hpw4 (Nat.le_refl _))⟩
/-! ### The reference's writing -/
theorem own_conv {w : World} {base n : Nat} {E : TypeId} {v : Value} {xs : List Value} {l : List UInt8} (h : Hid (w.ownsRow base E 1 v n xs)) (hn : n = l.length) (hx : xs = bvs l) : Hid (w.ownsRow base E 1 v l.length (bvs l)) := by subst hn; subst hx; exact h
theorem PtAt.grown {w w' : World} {b : Nat} {x : Pt} {r : Option Nat} (h : PtAt w b x) (hg : w.grownBy w' r) (hb : b < w.heap.size) (hr : ∀ k, r = some k → k ≠ b) : PtAt w' b x := by
  have hh : w'.heap[b]? = w.heap[b]? := hg.block b hb (fun e => hr b e.symm rfl)
  have key : ∀ o, w'.cell? ⟨b, o, none⟩ = w.cell? ⟨b, o, none⟩ := fun o => World.cell?_of_block (a := ⟨b, o, none⟩) hh
  exact ⟨(key 0).trans h.1, (key 1).trans h.2.1, (key 2).trans h.2.2.1, (key 3).trans h.2.2.2⟩
def wOut (s : WSt) : List UInt8 := if s.2 = 0 then s.1 else []
def WrOut (w : World) (s : WSt) (e : Ending) (w' : World) : Prop := ∃ v, e = .returned (.tuple #[v, .bool (s.2 == 0)]) ∧ Byt w' v (wOut s) ∧ Below w.heap.size w w'
theorem byt_none (w : World) : Byt w (.slice none 0 0) [] := .inl ⟨rfl, none, 0, rfl, by simp, fun _ => rfl⟩
set_option maxHeartbeats 8000000 in
set_option maxRecDepth 10000 in
theorem rwrite_any (v : Value) (L : List Pt) (w : World) (h : PtsAt w v L) :
    Calls Try.prog 17 #[v] w (WrOut w (wAll L)) := by
  have HP := Lib.hid h
  obtain ⟨A, c, rfl, hlen, hL, hok⟩ := h
  clear hL hok
  go_enter Try.func17, Try.ntmps17
  go_wp2
  go_loopw [4, 5] (fun out i wr => ∃ j : Nat, j ≤ L.length ∧ i = .int .i64 (j : Int) ∧ Hid ((wAll (L.take j)).2 = 0) ∧ Hid (wr.ownsRow w.heap.size 5 1 out (wAll (L.take j)).1.length (bvs (wAll (L.take j)).1)) ∧ Hid (Below w.heap.size w wr)) (fun _ i _ => (L.length - intOf i).toNat)
  case atStart => exact ⟨0, by omega, by rfl, Lib.hid rfl, Lib.hid (World.ownsRow_nil _ _ _ _), Lib.hid (Below.refl _ _)⟩
  case round =>
    obtain ⟨j, hj, rfl, HE, HO, HB⟩ := hrel
    by_cases h1 : j < L.length
    · obtain ⟨x, hx⟩ : ∃ x, L[j]? = some x := ⟨_, List.getElem?_eq_getElem h1⟩
      obtain ⟨A', c', hA', _, hL, hok⟩ := HP.out
      simp only [Value.slice.injEq, true_and] at hA'
      obtain ⟨hA1, rfl⟩ := hA'
      subst hA1
      obtain ⟨b, o, hA, hcell⟩ := hL (fun e => by rw [e] at h1; exact absurd h1 (Nat.not_lt_zero _))
      subst hA
      have hpx := hok x (List.mem_of_getElem? hx)
      obtain ⟨q0, q1, q2, q3⟩ := part_cells (w := wr) (fun i x hx j hj => by
        have hc := hcell i x hx j hj
        rw [List.getElem?_eq_getElem (by rw [ptF_len]; exact hj)] at hc ⊢
        exact (HB.out.cell (p := ⟨b, _, none⟩) (World.block_lt_of_cell? w _ hc)).trans hc) hx
      have hS := wAll_succ hx
      have hle := wAll_le (L.take j)
      obtain ⟨l, hl⟩ : ∃ l, wAll (L.take j) = (l, 0) := ⟨(wAll (L.take j)).1, by rw [← HE.out]⟩
      rw [hl] at HE HO hS hle
      have HPX := Lib.hid (hpx.below HB.out)
      have hstop := fun (h : (wPart (l, 0) x).2 ≠ 0) => wAll_stop (L := L) (j := j + 1) (by rw [hS]; exact h)
      rw [hS] at hstop
      have HSt := Lib.hid hstop
      have HS := Lib.hid hS
      clear hcell hx hL hok hpx hstop hS HE hl
      dsimp only at HO hle
      unfold ptV at q3
      go_upto_region 6 with fail
      clear q0 q1 q2 q3
      have hsz := HB.out.size
      have hb2 := (Below.refl wr.heap.size wr).alloc (Nat.le_refl _) (.cells (boxP x) 52 (0, 0))
      have hP2 := PtAt.new wr x
      have hO2 := HO.out.alloc (.cells (boxP x) 52 (0, 0))
      have hPX2 := HPX.out.below hb2
      have hNB : ∀ k, Value.ownBlock _ = some k → k < wr.heap.size := own_block_lt HO.out
      have hB2 := HB.out.trans (hb2.mono hsz)
      obtain ⟨w2, hw2⟩ : ∃ w2, wr.alloc (.cells #[.int .i64 x.width, .int .u64 (x.num : Int), .bool x.raw, .slice x.A x.bs.length x.c] 52 (0, 0)) = w2 := ⟨_, rfl⟩
      have HP2 : Hid (PtAt w2 wr.heap.size x) := Lib.hid (by rw [← hw2]; exact hP2)
      have HO2 : Hid (w2.ownsRow w.heap.size 5 1 _ l.length (bvs l)) := Lib.hid (by rw [← hw2]; exact hO2)
      have HPX2 : Hid (PtOk w2 x) := Lib.hid (by rw [← hw2]; exact hPX2)
      have HB2 : Hid (Below w.heap.size w w2) := Lib.hid (by rw [← hw2]; exact hB2)
      have HNB : Hid (∀ k, Value.ownBlock _ = some k → k ≠ wr.heap.size) := Lib.hid (fun k hk => by have := hNB k hk; omega)
      have hp62 : wr.heap.size < w2.heap.size := by rw [← hw2]; simp
      have hsz2 : w.heap.size ≤ w2.heap.size := HB2.out.size
      rw [hw2]
      clear hP2 hO2 hPX2 hB2 hw2 hb2 HPX HO HB hNB
      generalize wr.heap.size = p6 at *
      obtain ⟨q0, q1, q2, q3⟩ := HP2.out
      unfold ptV at q3
      have hx64 := HPX2.out
      obtain ⟨sp, cp, rfl⟩ := own_slice1 HO2.out
      have hw128 : wrap64 (128 - (l.length : Int)) = 128 - (l.length : Int) := by rw [← i64_w]; exact IntWalk.i64_in _ (by omega)
      have hfail : pOk l.length x = false → wAll L = (l, 1) := fun h => by
        have h2 := HSt.out
        rw [wPart_no h] at h2
        exact h2 (by simp)
      have HF := Lib.hid hfail
      clear hfail
      by_cases hwd : 128 - (l.length : Int) < x.width
      · have hno : wAll L = (l, 1) := HF.out (by
          unfold pOk putOk
          split
          · exact decide_eq_false (by omega)
          · have : fitsB 128 l.length x.width = false := by
              cases h : fitsB 128 l.length x.width with
              | false => rfl
              | true => rw [fitsB_iff] at h; omega
            rw [this]; rfl)
        go_wp2
        go_ret2
        try rw [hno]
        exact ⟨_, rfl, byt_none _, HB2.out⟩
      · cases hr : x.raw with
        | true =>
          rw [hr] at q2
          by_cases hsh : x.width < (x.bs.length : Int)
          · have hno : wAll L = (l, 1) := HF.out (by unfold pOk; rw [hr, if_pos rfl]; exact decide_eq_false (by omega))
            go_wp2
            go_ret2
            try rw [hno]
            exact ⟨_, rfl, byt_none _, HB2.out⟩
          · have hok : pOk l.length x = true := by unfold pOk; rw [hr, if_pos rfl]; exact decide_eq_true (by omega)
            have HS2 : Hid (wAll (L.take (j + 1)) = (l ++ pB x, 0)) := Lib.hid (by rw [HS.out, wPart_ok hok])
            have hpb : pB x = x.bs ++ List.replicate (x.width.toNat - x.bs.length) 0 := by unfold pB; rw [if_pos hr]
            have hln := (pOk_len hok).2.2
            rw [hpb] at HS2
            clear HF HSt hok hpb HS
            have HRD := Lib.hid (hx64.2.2.2.2.rd)
            unfold ptV at HRD
            clear hx64
            obtain ⟨k, hk⟩ : ∃ k : Nat, x.width = (k : Int) := ⟨x.width.toNat, by omega⟩
            rw [hk] at q0 hwd hsh
            have hkn : x.width.toNat = k := by omega
            rw [hkn] at HS2 hln
            go_upto_region 12 with (first
              | (at_builtin; refine wpList_append_rd_at _ rfl _ _ 22 rfl w.heap.size 5 (.int .u8 0) 1 1 Try.underlying22 infoU8 rfl (by decide) _ _ _ rfl HO2.out _ x.bs.length (bvs x.bs) rfl HRD.out ?c1 ?c2 (by decide) ?c3 ?_; (case c1 => exact bvs_oneCell _); (case c2 => omega); (case c3 => exact hsz2); intro v' w3 hown3 hbel3 hg3 hat3; have HO3 := Lib.hid hown3; have HB3 := Lib.hid (HB2.out.trans hbel3); have HP3 : Hid (PtAt w3 p6 x) := Lib.hid (HP2.out.grown hg3 hp62 HNB.out); have HN3 : Hid (∀ k, v'.ownBlock = some k → k ≠ p6) := Lib.hid (fun k hk => by rcases hat3 with h | h; exact HNB.out k (h ▸ hk); (rw [h] at hk; cases hk; omega)); have hp63 : p6 < w3.heap.size := Nat.lt_of_lt_of_le hp62 hg3.size; clear hown3 hbel3 hg3 hat3))
            have HO3' := own_conv (l := l ++ (x.bs ++ List.replicate 0 0)) HO3 (by simp) (by simp [bvs])
            clear HO3 q0 q1 q2 q3 HP2 HO2 HPX2 HRD HB2 HNB
            obtain ⟨q0, q1, q2, q3⟩ := HP3.out
            unfold ptV at q3
            rw [hk] at q0
            go_wp2
            clear q0 q1 q2 q3
            go_loopw [4, 7] (fun out kv wq => ∃ m : Nat, x.bs.length + m ≤ k ∧ kv = .int .i64 ((x.bs.length + m : Nat) : Int) ∧ Hid (wq.ownsRow w.heap.size 5 1 out (l ++ (x.bs ++ List.replicate m 0)).length (bvs (l ++ (x.bs ++ List.replicate m 0)))) ∧ Hid (Below w.heap.size w wq) ∧ Hid (PtAt wq p6 x) ∧ Hid (∀ k, Value.ownBlock out = some k → k ≠ p6) ∧ p6 < wq.heap.size) (fun _ kv _ => (k - intOf kv).toNat)
            case atStart => exact ⟨0, by omega, by go_num, HO3', HB3, HP3, HN3, hp63⟩
            case round =>
              clear HO3' HB3 HP3 HN3 hp63
              obtain ⟨m, hm, rfl, HO4, HB4, HP4, HN4, hp64⟩ := hrel
              obtain ⟨q0, q1, q2, q3⟩ := HP4.out
              unfold ptV at q3
              rw [hk] at q0
              by_cases hmk : x.bs.length + m < k
              · have hcmp : ((x.bs.length + m : Nat) : Int) < (k : Int) := by omega
                have hsz4 := HB4.out.size
                have hb5 := HB4.out.alloc hsz4 (.cells #[.int .u8 0] 5 (0, 0))
                have HB5 := Lib.hid hb5
                obtain ⟨sq, cq, rfl⟩ := own_slice1 HO4.out
                have HO5 := Lib.hid (HO4.out.alloc (.cells #[.int .u8 0] 5 (0, 0)))
                have HRD5 := Lib.hid (rd_one (new_heap wr (.cells #[.int .u8 0] 5 (0, 0))) 1)
                have HP5 : Hid (PtAt (wr.alloc (.cells #[.int .u8 0] 5 (0, 0))) p6 x) := Lib.hid (HP4.out.below ((Below.refl _ wr).alloc (Nat.le_refl _) _))
                have hp65 : p6 < (wr.alloc (.cells #[.int .u8 0] 5 (0, 0))).heap.size := by simp; omega
                clear hb5 HO4 HB4 HP4
                go_wp2_with (first
                  | (at_builtin; refine wpList_append_rd_at _ rfl _ _ 22 rfl w.heap.size 5 (.int .u8 0) 1 1 Try.underlying22 infoU8 rfl (by decide) _ _ _ rfl HO5.out _ 1 [.int .u8 0] rfl HRD5.out ?c1 ?c2 (by decide) ?c3 ?_; (case c1 => intro u hu; simp at hu; subst hu; rfl); (case c2 => simp; omega); (case c3 => simp; omega); intro v' w6 hown6 hbel6 hg6 hat6; have HO6 := Lib.hid hown6; have HB6 := Lib.hid (HB5.out.trans hbel6); have HP6 : Hid (PtAt w6 p6 x) := Lib.hid (HP5.out.grown hg6 hp65 HN4.out); have HN6 : Hid (∀ k, v'.ownBlock = some k → k ≠ p6) := Lib.hid (fun k hk => by rcases hat6 with h | h; exact HN4.out k (h ▸ hk); (rw [h] at hk; cases hk; omega)); have hp66 : p6 < w6.heap.size := Nat.lt_of_lt_of_le hp65 hg6.size; clear hown6 hbel6 hg6 hat6))
                have HO7 := own_conv (l := l ++ (x.bs ++ List.replicate (m + 1) 0)) HO6 (by simp; omega) (by rw [List.replicate_succ', show l ++ (x.bs ++ (List.replicate m 0 ++ [0])) = (l ++ (x.bs ++ List.replicate m 0)) ++ [0] by simp, bvs_append (l ++ (x.bs ++ List.replicate m 0)) [0]]; rfl)
                exact ⟨⟨m + 1, by omega, by go_num, HO7, HB6, HP6, HN6, hp66⟩, by simp [intOf]; omega⟩
              · have hcmp : ¬ (((x.bs.length + m : Nat) : Int) < (k : Int)) := by omega
                have hmm : m = k - x.bs.length := by omega
                go_wp2
                subst hmm
                exact ⟨⟨j + 1, by omega, by go_num, Lib.hid (by rw [HS2.out]), Lib.hid (by rw [HS2.out]; exact HO4.out), HB4⟩, by simp [intOf]; omega⟩
        | false =>
          have hr2 : x.raw = false := hr
          rw [hr] at q2
          have HCH := Lib.hid (has_any x.width x.num w2 hx64.2.2.1)
          have hpo : pOk l.length x = hasB x.width x.num := by
            unfold pOk
            rw [hr, if_neg (by simp)]
            cases hh : hasB x.width x.num with
            | true =>
              unfold hasB at hh
              simp only [Bool.and_eq_true, decide_eq_true_eq] at hh
              have : fitsB 128 l.length x.width = true := by rw [fitsB_iff]; omega
              unfold putOk
              rw [this, Bool.true_and]; exact decide_eq_true hh.2
            | false =>
              cases hp2 : putOk 128 l.length x.width x.num with
              | false => rfl
              | true =>
                unfold putOk at hp2
                simp only [Bool.and_eq_true, fitsB_iff, decide_eq_true_eq] at hp2
                unfold hasB at hh
                rw [decide_eq_true (show 1 ≤ x.width ∧ x.width ≤ 8 by omega), decide_eq_true hp2.2] at hh
                cases hh
          cases hh : hasB x.width x.num with
          | false =>
            have hno : wAll L = (l, 1) := HF.out (by rw [hpo, hh])
            rw [hh] at HCH
            go_wp2_with (go_at_call 25; go_must (refine HCH.out.mono ?_; rintro e w3 ⟨rfl, rfl⟩))
            go_ret2
            try rw [hno]
            exact ⟨_, rfl, byt_none _, HB2.out⟩
          | true =>
            have hok : pOk l.length x = true := by rw [hpo, hh]
            have HS2 : Hid (wAll (L.take (j + 1)) = (l ++ pB x, 0)) := Lib.hid (by rw [HS.out, wPart_ok hok])
            have hpb : pB x = le x.width.toNat x.num := by unfold pB; rw [if_neg (by simp [hr])]
            have hln := (pOk_len hok).2.2
            have hw18 : 1 ≤ x.width ∧ x.width ≤ 8 := by
              unfold hasB at hh
              simp only [Bool.and_eq_true, decide_eq_true_eq] at hh
              exact hh.1
            rw [hpb] at HS2
            rw [hh] at HCH
            clear HF HSt hok hpb HS hpo hh
            obtain ⟨k, hk⟩ : ∃ k : Nat, x.width = (k : Int) := ⟨x.width.toNat, by omega⟩
            rw [hk] at q0 hwd HCH
            have hkn : x.width.toNat = k := by omega
            rw [hkn] at HS2 hln
            have HLW := Lib.hid (low_any x.num k w2 hx64.2.2.1 (by omega))
            clear hx64
            unfold RetB at HLW
            go_wp2_with (first
              | (go_at_call 25; go_must (refine HCH.out.mono ?_; rintro e w3 ⟨rfl, rfl⟩))
              | (go_at_call 26; go_must (refine HLW.out.mono ?_; rintro e w3 ⟨v3, rfl, hown3, hb3⟩; rw [le_length] at hown3; obtain ⟨s3, c3, rfl⟩ := own_slice1 hown3; have HRD := Lib.hid (own_rd hown3); have HO3 := Lib.hid (own_below HO2.out hb3); have HB3 := Lib.hid (HB2.out.trans (hb3.mono hsz2)); have hsz3 : w.heap.size ≤ w3.heap.size := Nat.le_trans hsz2 hb3.size; clear hown3 hb3))
              | (at_builtin; refine wpList_append_rd_at _ rfl _ _ 22 rfl w.heap.size 5 (.int .u8 0) 1 1 Try.underlying22 infoU8 rfl (by decide) _ _ _ rfl HO3.out _ k (bvs (le k x.num)) rfl HRD.out ?c1 ?c2 (by decide) ?c3 ?_; (case c1 => exact bvs_oneCell _); (case c2 => simp; omega); (case c3 => exact hsz3); intro v' w6 hown6 hbel6 hg6 hat6; have HO6 := Lib.hid hown6; have HB6 := Lib.hid (HB3.out.trans hbel6); clear hown6 hbel6 hg6 hat6))
            have HO7 := own_conv (l := l ++ le k x.num) HO6 (by simp) (by rw [bvs_append])
            exact ⟨⟨j + 1, by omega, by go_num, Lib.hid (by rw [HS2.out]), Lib.hid (by rw [HS2.out]; exact HO7.out), HB6⟩, by simp [intOf]; omega⟩
    · obtain rfl : j = L.length := by omega
      have hT : L.take L.length = L := List.take_length
      rw [hT] at HE HO
      go_wp2
      go_ret2
      refine ⟨_, by rw [HE.out]; rfl, ?_, HB.out⟩
      have := (own_byt HO.out).1
      unfold wOut
      rw [if_pos HE.out]; exact this
end Go.Proofs.Ytdgmkjalnmpneaa
