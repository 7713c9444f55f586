/-
  Disk: what lies in memory; slices.Backward's closure.
-/
import Derived.Test.YtiehfaiadhhndaaFull
import Derived.Test.YtiehfaiadhhndaaMem
import Derived.RangeFuncNested
import Derived.RangeFuncBound
import Derived.RangeFuncCalls
import Derived.RangeFuncLeaves
import Derived.RangeFuncBox
import Derived.Shelf.Abstract
import Derived.Shelf.RegionOpen
import Derived.WalkKit
import Derived.OwnWalkIn
import Derived.TacticsInMore
import Derived.LoopNIn
import Derived.LoopIn
namespace Go.Proofs.Ytiehfaiadhhndaa
open Go.RowKit Go.Shelf
set_option linter.unusedVariables false
set_option linter.unusedSimpArgs false
attribute [local go_sem] Oper.semAt_some
abbrev Sc := { l : List UInt8 // l.length = 128 }
def scF (s : Sc) : List Value := bvs s.1
theorem scF_len (s : Sc) : (scF s).length = 128 := by unfold scF; rw [bvs_length]; exact s.2
theorem scF_one (s : Sc) : ∀ u ∈ scF s, u.oneCell' = true := bvs_oneCell _
structure Wr where
  at_ : Int
  s : Sc
def wrF (q : Wr) : List Value := .int .i64 q.at_ :: scF q.s
theorem wrF_len (q : Wr) : (wrF q).length = 129 := by unfold wrF; rw [List.length_cons, scF_len]
theorem wrF_one (q : Wr) : ∀ u ∈ wrF q, u.oneCell' = true := by
  intro u hu
  rcases List.mem_cons.1 hu with rfl | h
  · rfl
  · exact scF_one _ u h
/-! ### Rows of many cells, in a fence -/
section
variable {F : Fence} {nF : Nat} {P : Program} {ops : Array Oper} {rest : List Oper} {o : Oper} {a : Act} {w : World} {Q : Exit → Act → World → Prop}
theorem wpListIn_load_mid (hg : o.guard = none) (ty : TypeId) (x : Operand) (ho : o.op = .load ty x) (b off : Nat) (hx : a.eval x = .pointer (some ⟨b, off, none⟩)) (cs : List Value) (d : TypeDesc) (hc : w.rangeAt b off cs)
    (hu : P.underlying ty = some d) (hd : d.isRow = true) (hi : (P.info? ty).map (·.size) = some cs.length) (h : wpListIn F nF P ops Q rest (a.put o.dst (.agg cs.toArray)) w) : wpListIn F nF P ops Q (o :: rest) a w := by
  refine wpListIn_plain hg fun K' hK' => ?_
  unfold Oper.wpIn
  refine ⟨by simp [Oper.about, ho], ?_⟩
  rw [Oper.semAt_plain F _ _ (by rw [ho]; intro c hc'; cases hc')]
  have hr := run_loadAt_mid w b off ty cs d hc hu hd hi
  unfold execOp
  simp only [ho, hx, Sem.run_bind, Sem.run_pure, Result.andThen_ok, hr]
  exact hK' _ _ h
theorem wpListIn_store_mid (hg : o.guard = none) (ty : TypeId) (x y : Operand) (ho : o.op = .store ty x y) (b off : Nat) (cells : Array Value) (hx : a.eval x = .pointer (some ⟨b, off, none⟩)) (hy : a.eval y = .agg cells)
    (ht : w.there b off cells.size) (hi : (P.info? ty).map (·.size) = some cells.size) (h1 : cells.all (·.oneCell') = true) (h : wpListIn F nF P ops Q rest (a.put o.dst undef) (w.setCells b off cells.toList)) : wpListIn F nF P ops Q (o :: rest) a w := by
  refine wpListIn_plain hg fun K' hK' => ?_
  unfold Oper.wpIn
  refine ⟨by simp [Oper.about, ho], ?_⟩
  rw [Oper.semAt_plain F _ _ (by rw [ho]; intro c hc'; cases hc')]
  have hr := run_storeAt_mid w b off ty cells ht hi h1
  unfold execOp
  simp only [ho, hx, hy, Sem.run_bind, Sem.run_pure, Result.andThen_ok, hr]
  exact hK' _ _ h
end
theorem size_wr : (Try.prog.info? 71).map (·.size) = some 129 := by kernel_rfl
/-! ### slices.Backward -/
/-- What has come when k rounds are over. -/
def uptoB (f : Nat → Nat × Wr) (k : Nat) : List (Nat × Wr) := (List.range k).map f
theorem uptoB_succ (f : Nat → Nat × Wr) (k : Nat) : uptoB f (k + 1) = uptoB f k ++ [f k] := by simp [uptoB, List.range_succ]
theorem uptoB_length (f : Nat → Nat × Wr) (k : Nat) : (uptoB f k).length = k := by simp [uptoB]
def sc0 : Sc := ⟨List.replicate 128 0, by simp⟩
def wr0 : Wr := ⟨0, sc0⟩
/-- The items of a queue from behind. -/
def bk (L : List Wr) (j : Nat) : Nat × Wr := (L.length - 1 - j, L.getD (L.length - 1 - j) wr0)
def encB (x : Nat × Wr) : Array Value := #[.int .i64 (x.1 : Int), .agg (wrF x.2).toArray]
/-- A queue's rows, in memory below n0. -/
def QAt (w : World) (n0 : Nat) (v : Value) (L : List Wr) : Prop :=
  (v = .slice none 0 0 ∧ L = []) ∨ ∃ b o c, v = .slice (some ⟨b, o, none⟩) L.length c ∧ b < n0 ∧ ∀ j, j < L.length → w.rangeAt b (o + j * 129) (wrF (L.getD j wr0))
theorem QAt.below {n0 : Nat} {A B : World} (h : Below n0 A B) {v : Value} {L : List Wr} : QAt A n0 v L → QAt B n0 v L := by
  rintro (h1 | ⟨b, o, c, h1, h2, h3⟩)
  · exact .inl h1
  · exact .inr ⟨b, o, c, h1, h2, fun j hj i v hv => (h.cell (p := ⟨b, _, none⟩) h2).trans (h3 j hj i v hv)⟩
set_option maxRecDepth 100000 in
set_option maxHeartbeats 4000000 in
theorem back_some (n : Nat) (hn : 1 ≤ n) (l Bs n0 b off cap : Nat) (L : List Wr) (hreach : L.length ≤ 1000) (hb : b < n0) (hB0 : Bs < n0) (J Jx : List (Nat × Wr) → World → Prop)
    (hY : ∀ pre x W, J pre W → pre.length < L.length → YieldAt Fence.wide (n - 1) Try.prog l (encB x) W fun e W' =>
      (e = .returned (.bool true) ∧ J (pre ++ [x]) W' ∧ Below n0 W W') ∨ (e = .returned (.bool false) ∧ Jx (pre ++ [x]) W'))
    (W : World) (hBs : W.cell? ⟨Bs, 0, none⟩ = some (.slice (some ⟨b, off, none⟩) L.length cap)) (hc : ∀ j, j < L.length → W.rangeAt b (off + j * 129) (wrF (L.getD j wr0))) (h0 : J [] W) :
    CallsIn Fence.wide n Try.prog 39 #[.func (.yield l) #[] #[], .pointer (some ⟨Bs, 0, none⟩)] W fun e W' => (∃ v, e = .returned v) ∧
      ((∃ ys, ys = uptoB (bk L) L.length ∧ J ys W') ∨ (∃ pre, (∃ k, k ≤ L.length ∧ pre = uptoB (bk L) k) ∧ Jx pre W')) := by
  refine callsIn_of_wp Try.func39 rfl trivial ?_ rfl
  simp only [Try.ntmps39, List.size_toArray, List.length_cons, List.length_nil, Nat.reduceAdd, Nat.reduceSub, Array.replicate_succ, Array.replicate_zero, List.push_toArray, List.append_toArray, List.nil_append, List.cons_append]
  have hw0 : wrap64 ((L.length : Int) - 1) = (L.length : Int) - 1 := by rw [← i64_w]; exact IntWalk.i64_in _ (by omega)
  gi_wp2
  gi_loopw [3] (fun i wr => ∃ k : Nat, k ≤ L.length ∧ i = .int .i64 ((L.length : Int) - 1 - (k : Int)) ∧ J (uptoB (bk L) k) wr ∧ Below n0 W wr)
    (fun i _ => (intOf i + 1).toNat)
  case atStart => exact ⟨0, Nat.zero_le _, by simp, h0, Below.refl _ _⟩
  case round =>
    obtain ⟨k, hk, rfl, hJs, hnx⟩ := hrel
    by_cases hlt : k < L.length
    · obtain ⟨fn, tmps, assign, body, hy, hR⟩ := hY _ (bk L k) wr hJs (by rw [uptoB_length]; exact hlt)
      have hrow := hc (L.length - 1 - k) (by omega)
      have hrow' : wr.rangeAt b (off + (L.length - 1 - k) * 129) (wrF (bk L k).2) := fun i v hv => (hnx.cell (p := ⟨b, _, none⟩) hb).trans (hrow i v hv)
      have hbx : wr.cell? ⟨Bs, 0, none⟩ = some (.slice (some ⟨b, off, none⟩) L.length cap) := (hnx.cell (p := ⟨Bs, 0, none⟩) hB0).trans hBs
      obtain ⟨q, hq⟩ : ∃ q : Nat, (L.length : Int) - 1 - (k : Int) = (q : Int) := ⟨L.length - 1 - k, by omega⟩
      have hqn : L.length - 1 - k = q := by omega
      have hql : (q : Int) < (L.length : Int) := by omega
      have hwq : wrap64 ((q : Int) - 1) = (q : Int) - 1 := by rw [← i64_w]; exact IntWalk.i64_in _ (by omega)
      rw [hqn] at hrow'
      unfold encB at hy
      rw [show (bk L k).1 = q from hqn] at hy
      rw [hq]
      generalize (bk L k).2 = x at *
      clear hrow hw0
      gi_wp2_with (first
        | (refine wpListIn_load_mid rfl 71 (.tmp 15) rfl b (off + q * 129) rfl (wrF x) _ hrow' Try.underlying71 rfl (by rw [wrF_len]; exact size_wr) ?_))
      refine hR.mono ?_
      rintro e W3 (⟨rfl, hJ3, hk3⟩ | ⟨rfl, hJx3⟩)
      · gi_wp2
        go_roundw
        case rel => exact ⟨k + 1, by omega, by congr 1; omega, by rw [uptoB_succ]; exact hJ3, hnx.trans hk3⟩
        case measure => first | (simp [intOf]; done) | (simp [intOf]; omega)
      · gi_wp2
        refine bodyPost_ret (results_none rfl _ _ _) rfl ?_
        exact ⟨⟨_, rfl⟩, .inr ⟨_, ⟨k + 1, by omega, (uptoB_succ _ _).symm⟩, hJx3⟩⟩
    · obtain rfl : k = L.length := by omega
      have hneg : ¬ ((0 : Int) ≤ (L.length : Int) - 1 - (L.length : Int)) := by omega
      gi_wp2
      go_end0
      first | exact ⟨⟨_, rfl⟩, .inl hJs⟩ | exact ⟨⟨_, rfl⟩, .inl ⟨_, rfl, hJs⟩⟩
set_option maxRecDepth 100000 in
set_option maxHeartbeats 1000000 in
theorem back_nil (n : Nat) (l Bs : Nat) (J : List (Nat × Wr) → World → Prop) (W : World) (hBs : W.cell? ⟨Bs, 0, none⟩ = some (.slice none 0 0)) (h0 : J [] W) :
    CallsIn Fence.wide n Try.prog 39 #[.func (.yield l) #[] #[], .pointer (some ⟨Bs, 0, none⟩)] W fun e W' => (∃ v, e = .returned v) ∧ J [] W' := by
  refine callsIn_of_wp Try.func39 rfl trivial ?_ rfl
  simp only [Try.ntmps39, List.size_toArray, List.length_cons, List.length_nil, Nat.reduceAdd, Nat.reduceSub, Array.replicate_succ, Array.replicate_zero, List.push_toArray, List.append_toArray, List.nil_append, List.cons_append]
  gi_wp2
  gi_loopw [3] (fun i wr => i = .int .i64 (-1) ∧ J [] wr) (fun _ _ => 0)
  case atStart => exact ⟨by first | rfl | simp [wrap64], h0⟩
  case round =>
    obtain ⟨rfl, hJs⟩ := hrel
    gi_wp2
    go_end0
    exact ⟨⟨_, rfl⟩, hJs⟩
set_option maxHeartbeats 1000000 in
theorem backward_any (n : Nat) (A : Option Addr) (m c : Nat) (w : World) :
    CallsIn Fence.wide n Try.prog 26 #[.slice A m c] w fun e w' => e = .returned (.func (.func 39) #[] #[.pointer (some ⟨w.heap.size, 0, none⟩)]) ∧ w' = w.alloc (.cells #[.slice A m c] 67) := by
  refine callsIn_of_wp Try.func26 rfl trivial ?_ rfl
  simp only [Try.ntmps26, List.size_toArray, List.length_cons, List.length_nil, Nat.reduceAdd, Nat.reduceSub, Array.replicate_succ, Array.replicate_zero, List.push_toArray, List.append_toArray, List.nil_append, List.cons_append]
  gi_wp2
  go_ret
  exact ⟨rfl, rfl⟩
theorem back_stops (n : Nat) (hn : 1 ≤ n) (Bs n0 : Nat) (sv : Value) (L : List Wr) (hreach : L.length ≤ 1000) (w : World) (hBs : Bs < n0) (hn0 : n0 ≤ w.heap.size) (hc : w.cell? ⟨Bs, 0, none⟩ = some sv) (hI : QAt w n0 sv L) :
    SeqStopsK Fence.wide n Try.prog 39 #[.pointer (some ⟨Bs, 0, none⟩)] encB (Below n0) (fun ys => ys = uptoB (bk L) L.length) (fun pre => ∃ k, k ≤ L.length ∧ pre = uptoB (bk L) k) L.length w := fun l J Jx W hW _ _ hY h0 => by
  have hc' := (hW.cell (p := ⟨Bs, 0, none⟩) (Nat.lt_of_lt_of_le hBs hn0)).trans hc
  rcases hI.below (hW.mono hn0) with ⟨rfl, rfl⟩ | ⟨b, off, cap, rfl, hb, hcs⟩
  · exact (back_nil n l Bs J W hc' h0).mono fun e W' ⟨he, hj⟩ => ⟨he, .inl ⟨_, rfl, hj⟩⟩
  · exact back_some n hn l Bs n0 b off cap L hreach hb hBs J Jx hY W hc' hcs h0
end Go.Proofs.Ytiehfaiadhhndaa
