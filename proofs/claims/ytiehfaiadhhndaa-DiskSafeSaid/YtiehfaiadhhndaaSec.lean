/-
  Sectors: 128 bytes by value: their loads, stores and comparisons.
-/
import Derived.Test.YtiehfaiadhhndaaProg
import Derived.Test.YtiehfaiadhhndaaBase
import Derived.Deep.MidRow
import Derived.ChangeKeysEq
import Derived.Deep.WholeRow
namespace Go.Proofs.Ytiehfaiadhhndaa
open Go.RowKit
set_option linter.unusedVariables false
set_option linter.unusedSimpArgs false
/-- A sector's value. -/
def secV (l : List UInt8) : Value := .agg (bvs l).toArray
theorem eqItems_bytes {P : Program} (d : Nat) {e : TypeId} (he : P.plainKey e = true) (hu : P.underlying e = some (.int .u8)) (w : World) (xs ys : List UInt8) : ∀ (is : List Nat), (∀ i ∈ is, i < xs.length ∧ i < ys.length) →
    (Op.eqItems (d + 1) e 1 (bvs xs).toArray (bvs ys).toArray is).run P w = .ok (is.all fun i => xs.getD i 0 == ys.getD i 0) w
  | [], _ => by simp [Op.eqItems]
  | i :: r, h => by
    obtain ⟨h1, h2⟩ := h i (by simp)
    have p1 := run_part_plain (P := P) w he (xs := (bvs xs).toArray) (off := i * 1) (v := .int .u8 ((xs.getD i 0).toNat : Int)) (by rw [Nat.mul_one, List.getElem?_toArray, bvs_get _ _ h1])
    have p2 := run_part_plain (P := P) w he (xs := (bvs ys).toArray) (off := i * 1) (v := .int .u8 ((ys.getD i 0).toNat : Int)) (by rw [Nat.mul_one, List.getElem?_toArray, bvs_get _ _ h2])
    have p3 := run_equalIn_int (P := P) w d e .u8 .u8 ((xs.getD i 0).toNat : Int) ((ys.getD i 0).toNat : Int) hu
    have ih := eqItems_bytes d he hu w xs ys r (fun j hj => h j (by simp [hj]))
    have e1 : ((((xs.getD i 0).toNat : Int)) == ((ys.getD i 0).toNat : Int)) = (xs.getD i 0 == ys.getD i 0) := by
      rw [Bool.eq_iff_iff]
      simp only [beq_iff_eq, Int.natCast_inj]
      exact ⟨fun h => UInt8.toNat_inj.1 h, fun h => by rw [h]⟩
    simp only [Op.eqItems, Sem.run_bind, p1, p2, p3, Result.andThen_ok, List.all_cons, e1]
    cases (xs.getD i 0 == ys.getD i 0)
    · simp
    · simpa using ih
theorem all_eq_iff (xs ys : List UInt8) (n : Nat) (hx : xs.length = n) (hy : ys.length = n) : ((List.range n).all fun i => xs.getD i 0 == ys.getD i 0) = decide (xs = ys) := by
  rw [Bool.eq_iff_iff]
  simp only [List.all_eq_true, List.mem_range, beq_iff_eq, decide_eq_true_eq]
  constructor
  · intro h
    apply List.ext_getElem (by omega)
    intro i h1 h2
    have := h i (by omega)
    simpa [List.getD_eq_getElem?_getD, List.getElem?_eq_getElem h1, List.getElem?_eq_getElem h2] using this
  · intro h i hi; rw [h]
/-- Two sectors compared. -/
theorem equal_sec {P : Program} {t e : TypeId} {i : TypeInfo} (hu : P.underlying t = some (.array 128 e)) (hi : P.info? e = some i) (hc : P.cellsOf e = 1) (he : P.plainKey e = true) (hue : P.underlying e = some (.int .u8)) (w : World) (xs ys : List UInt8) (hx : xs.length = 128) (hy : ys.length = 128) :
    (Op.equalIn 10000 t (secV xs) (secV ys)).run P w = .ok (decide (xs = ys)) w := by
  unfold secV
  rw [run_equalIn_array w 9999 _ _ hu hi, hc, eqItems_bytes 9998 he hue w xs ys _ (fun i hi => by simp at hi; omega), all_eq_iff xs ys 128 hx hy]
/-- The whole of a block, by value. -/
theorem wpList_load_row {P : Program} {ops : Array Oper} {rest : List Oper} {op : Oper} {a : Act} {w : World} {Q : Exit → Act → World → Prop} (hgd : op.guard = none) (ty : TypeId) (x : Operand) (ho : op.op = .load ty x)
    (g : Nat) (hx : a.eval x = .pointer (some ⟨g, 0, none⟩)) (cs : Array Value) (t : TypeId) (fr : Nat × Nat) (d : TypeDesc) (hg : w.heap[g]? = some (.cells cs t fr))
    (hu : P.underlying ty = some d) (hd : d.isRow = true) (hi : (P.info? ty).map (·.size) = some cs.size)
    (h : wpList P ops Q rest (a.put op.dst (.agg cs)) w) : wpList P ops Q (op :: rest) a w := by
  refine wpList_plain hgd fun K hK => ?_
  unfold Oper.wp execOp
  have := run_loadVar_row (P := P) w g t ty cs fr d hg hu (by cases d <;> simp_all) hi
  simp only [ho, hx, Instr.loadAt, Instr.sureAddr, Sem.run_bind, Sem.run_pure, Result.andThen_ok, this]
  exact hK _ _ h
theorem oper_load_row {P : Program} {op : Oper} {a : Act} {w : World} {K : Act → World → Prop} {Q : Exit → Act → World → Prop} (ty : TypeId) (x : Operand) (ho : op.op = .load ty x)
    (g : Nat) (hx : a.eval x = .pointer (some ⟨g, 0, none⟩)) (cs : Array Value) (t : TypeId) (fr : Nat × Nat) (d : TypeDesc) (hg : w.heap[g]? = some (.cells cs t fr))
    (hu : P.underlying ty = some d) (hd : d.isRow = true) (hi : (P.info? ty).map (·.size) = some cs.size)
    (h : K (a.put op.dst (.agg cs)) w) : Oper.wp P op a w K Q := by
  unfold Oper.wp execOp
  have := run_loadVar_row (P := P) w g t ty cs fr d hg hu (by cases d <;> simp_all) hi
  simp only [ho, hx, Instr.loadAt, Instr.sureAddr, Sem.run_bind, Sem.run_pure, Result.andThen_ok, this]
  exact h
/-- The same, guarded, where the guard says yes. -/
theorem wpList_load_row_g {P : Program} {ops : Array Oper} {rest : List Oper} {op : Oper} {a : Act} {w : World} {Q : Exit → Act → World → Prop} (hw : Region.wanted op (yielded ops a.tmps) = true) (ty : TypeId) (x : Operand) (ho : op.op = .load ty x)
    (g : Nat) (hx : a.eval x = .pointer (some ⟨g, 0, none⟩)) (cs : Array Value) (t : TypeId) (fr : Nat × Nat) (d : TypeDesc) (hg : w.heap[g]? = some (.cells cs t fr))
    (hu : P.underlying ty = some d) (hd : d.isRow = true) (hi : (P.info? ty).map (·.size) = some cs.size)
    (h : wpList P ops Q rest (a.put op.dst (.agg cs)) w) : wpList P ops Q (op :: rest) a w := by
  unfold wpList
  rw [if_pos hw]
  exact .inl (oper_load_row ty x ho g hx cs t fr d hg hu hd hi h)
theorem wpList_store_row {P : Program} {ops : Array Oper} {rest : List Oper} {op : Oper} {a : Act} {w : World} {Q : Exit → Act → World → Prop} (hgd : op.guard = none) (ty : TypeId) (x y : Operand) (ho : op.op = .store ty x y)
    (g : Nat) (old cells : Array Value) (t : TypeId) (hx : a.eval x = .pointer (some ⟨g, 0, none⟩)) (hy : a.eval y = .agg cells) (hg : w.heap[g]? = some (.cells old t (0, 0)))
    (hi : (P.info? ty).map (·.size) = some cells.size) (hs : old.size = cells.size) (h1 : cells.all (·.oneCell') = true)
    (h : wpList P ops Q rest (a.put op.dst undef) (w.setRow g cells)) : wpList P ops Q (op :: rest) a w := by
  refine wpList_plain hgd fun K hK => ?_
  unfold Oper.wp execOp
  simp only [ho, hx, hy, Instr.storeAt, Instr.sureAddr, Sem.run_bind, Sem.run_pure, Result.andThen_ok, run_storeVar_row w g t ty old cells hg hi hs h1]
  exact hK _ _ h
/-- 128 noughts, as cells. -/
def zArr : Array Value := (bvs (List.replicate 128 0)).toArray
theorem zArr_sec : Value.agg zArr = secV (List.replicate 128 0) := rfl
theorem zArr_size : zArr.size = 128 := by simp [zArr]
theorem secV_size (l : List UInt8) : (bvs l).toArray.size = l.length := by simp
theorem info_sec : (Try.prog.info? 31).map (fun i => (i.zero, i.size)) = some (some (.agg zArr), 128) := by kernel_rfl
theorem info_arr : (Try.prog.info? 30).map (fun i => (i.zero, i.size)) = some (some (.agg zArr), 128) := by kernel_rfl
theorem zero_sec (w : World) : (zeroValue 31).run Try.prog w = .ok (.agg zArr) w := (zero_of_info info_sec).1 w
theorem zero_arr (w : World) : (zeroValue 30).run Try.prog w = .ok (.agg zArr) w := (zero_of_info info_arr).1 w
theorem size_sec : (Try.prog.info? 31).map (·.size) = some 128 := (zero_of_info info_sec).2
theorem size_arr : (Try.prog.info? 30).map (·.size) = some 128 := (zero_of_info info_arr).2
theorem sec_one (l : List UInt8) : (bvs l).toArray.all (·.oneCell') = true := all_oneCell_toArray (bvs_oneCell l)
theorem zArr_one : zArr.all (·.oneCell') = true := sec_one _
/-- A function's results, of which the first lies in a cell. -/
theorem results_cell1 {P : Program} {fn : Func} {tmps : Array Value} {a : Nat} {t : TypeId} {ad : Addr} {v : Value} {w : World} (hr : fn.results = #[.cell a t]) (hp : tmps.getD a undef = .pointer (some ad)) (hl : (loadVar t ad).run P w = .ok v w) :
    (results fn tmps).run P w = .ok v w := by
  rw [Array.getD_eq_getD_getElem?] at hp
  simp [results, hr, asAddr, hp, hl, Sem.run_bind]
theorem results_cell2 {P : Program} {fn : Func} {tmps : Array Value} {a s : Nat} {t : TypeId} {ad : Addr} {v u : Value} {w : World} (hr : fn.results = #[.cell a t, .tmp s]) (hp : tmps.getD a undef = .pointer (some ad)) (hu : tmps.getD s undef = u) (hl : (loadVar t ad).run P w = .ok v w) :
    (results fn tmps).run P w = .ok (.tuple #[v, u]) w := by
  subst hu
  rw [Array.getD_eq_getD_getElem?] at hp
  simp [results, hr, asAddr, hp, hl, Sem.run_bind]
/-- Cells laid one behind the other into an array. -/
theorem fold_set (off : Nat) : ∀ (X : List Value) (k : Nat) (C : List Value), off + k + X.length ≤ C.length →
    (X.zipIdx k).foldl (fun (cs : Array Value) (p : Value × Nat) => cs.setIfInBounds (off + p.2) p.1) C.toArray = (C.take (off + k) ++ X ++ C.drop (off + k + X.length)).toArray
  | [], k, C, h => by simp
  | x :: X, k, C, h => by
    rw [List.zipIdx_cons, List.foldl_cons]
    simp only [List.setIfInBounds_toArray]
    rw [fold_set off X (k + 1) (C.set (off + k) x) (by simp at h ⊢; omega)]
    congr 1
    simp only [List.length_cons] at h
    have e1 : (C.set (off + k) x).take (off + (k + 1)) = C.take (off + k) ++ [x] := by
      rw [show off + (k + 1) = (off + k) + 1 by omega, List.take_add_one, List.take_set_of_le (by omega)]
      simp [List.getElem?_set]
      omega
    have e2 : (C.set (off + k) x).drop (off + (k + 1) + X.length) = C.drop (off + k + (x :: X).length) := by
      rw [List.drop_set_of_lt (by omega)]
      congr 1
      simp; omega
    rw [e1, e2]
    simp
theorem wpList_build_at {P : Program} {ops : Array Oper} {rest : List Oper} {o : Oper} {a : Act} {w : World} {Q : Exit → Act → World → Prop} (hg : o.guard = none) (t : TypeId) (parts : Array (Nat × Operand)) (ho : o.op = .build t parts)
    (L : List (Nat × Value)) (hL : (parts.map fun (i, x) => (i, a.eval x)).toList = L) (cells : Array Value) (hb : P.built t L = some cells) (h : wpList P ops Q rest (a.put o.dst (.agg cells)) w) : wpList P ops Q (o :: rest) a w := by
  subst hL
  refine wpList_plain hg fun K hK => ?_
  unfold Oper.wp execOp
  simp only [ho, Sem.run_bind, run_build w t _ cells hb, Result.andThen_ok]
  exact hK _ _ h
/-- 'append(s, x...)', s the call's own, x whatever reads: as one step of a region that draws. -/
theorem step_append_rd {P : Program} {ops : Array Oper} {o : Oper} {a : Act} {w : World} {K : Act → World → Prop} {Q : Exit → Act → World → Prop} {E : Prop} (hgd : o.guard = none) (s x : Operand) (t : TypeId)
    (ho : o.op = .call { callee := .builtin .append, args := #[s, x], argTypes := #[t, t] })
    (base : Nat) (e : TypeId) (z : Value) (size bytes : Nat) (ht : P.underlying t = some (.slice e)) (hinfo : (P.info? e).map (fun i => (i.zero, i.size, i.bytes)) = some (some z, size, bytes))
    (hzs : z.cells.size = size) (hsz : 0 < size)
    (v : Value) (n : Nat) (xs : List Value) (hs : a.eval s = v) (hown : w.ownsRow base e size v n xs)
    (u : Value) (m : Nat) (news : List Value) (hx : a.eval x = u) (hu : Rd w u size m news) (h1 : ∀ u ∈ news, u.oneCell' = true)
    (hbytes : (n + m) * bytes ≤ 140737488355328) (hby : 0 < bytes) (hbase : base ≤ w.heap.size)
    (h : ∀ v' w', w'.ownsRow base e size v' (n + m) (xs ++ news) → Below base w w' → w.grownBy w' v.ownBlock → K (a.put o.dst v') w') :
    if Region.wanted o (yielded ops a.tmps) = true then Oper.wp P o a w K Q else E := by
  have hw : Region.wanted o (yielded ops a.tmps) = true := by simp [Region.wanted, hgd]
  rw [if_pos hw]
  obtain ⟨i, hi, hz, hsi, hbi⟩ := info_parts hinfo
  have h63 : n + m ≤ maxLen := by
    have : n + m ≤ (n + m) * bytes := Nat.le_mul_of_pos_right _ hby
    unfold maxLen; omega
  rcases hu.2 with ⟨rfl, rfl⟩ | ⟨ad, c, rfl, hc⟩
  · have hnews : news = [] := List.eq_nil_of_length_eq_zero (by simpa using hu.1)
    subst hnews
    have hrun := run_append_owned_none (P := P) (w := w) base t o.type e i size ht hi v n xs hown
    unfold Oper.wp
    simp [execOp, ho, resolve, invoke, builtin, hs, hx, hrun, Result.andThen]
    exact h v w (by simpa using hown) (Below.refl _ _) (World.grownBy.refl _ _)
  · exact wp_append_own w s x t ho base e i z size bytes ht hi hz hsi hbi hzs hsz v n xs hs hown ad m c news hx hu.1 hc h1 h63 hbytes hbase
      (fun v' w' h2 h3 _ => h v' w' h2 (grown_below hown h3 hbase) h3)
end Go.Proofs.Ytiehfaiadhhndaa
