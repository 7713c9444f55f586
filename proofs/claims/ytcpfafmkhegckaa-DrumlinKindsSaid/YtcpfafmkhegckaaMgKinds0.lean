/-
  Plain words on bytes, little-endian numbers, readable slices and written rows, that all proofs of this set share. No program is in sight.
-/
import Derived.WalkKit
import Derived.WalkSpells
import Derived.WalkLawsBesides
import Derived.Lib.Hide
import Derived.Laws.CopyOwn
import Derived.Deep.LoopGhost
import Derived.Deep.Draws
import Derived.OwnWalk
import Derived.Laws.MakeOwn
import Derived.Laws.OwnMore
import Derived.Test.YtcpfafmkhegckaaRows
import Derived.ProofKit
import Derived.OpenShut
import Derived.ChangeOld
import Derived.SizedLaws
import Derived.Lib.SmallJoins
import Derived.Test.YtcpfafmkhegckaaProg
import Derived.Laws.Bits64b
import Derived.Deep.MidRow
import Derived.ChangeKeysEq
import Derived.Deep.WholeRow
import Derived.Deep.QuietTactic
import Derived.BigQuiet
import Derived.Deep.DeepCutAuto
import Derived.Deep.CutBlock
import Derived.IntWalk
namespace Go.Proofs.Ytcpfafmkhegckaa
open Go.RowKit

/-! ### Bytes -/
/-- A byte as a value. -/
def bval (x : UInt8) : Value := .int .u8 (x.toNat : Int)
def bvs (l : List UInt8) : List Value := l.map bval
@[simp] theorem bvs_length (l : List UInt8) : (bvs l).length = l.length := by simp [bvs]
theorem bvs_append (a b : List UInt8) : bvs (a ++ b) = bvs a ++ bvs b := by simp [bvs]
theorem bvs_get (l : List UInt8) (i : Nat) (h : i < l.length) : (bvs l)[i]? = some (.int .u8 ((l.getD i 0).toNat : Int)) := by
  simp [bvs, List.getElem?_map, List.getElem?_eq_getElem h, bval]
theorem bvs_oneCell (l : List UInt8) : ∀ u ∈ bvs l, u.oneCell' = true := by
  intro u hu
  obtain ⟨x, _, rfl⟩ := List.mem_map.1 hu
  rfl

/-! ### Numbers in bytes, the lowest byte first -/
def leNat : List UInt8 → Nat
  | [] => 0
  | x :: r => x.toNat + 256 * leNat r
def le : Nat → Nat → List UInt8
  | 0, _ => []
  | k + 1, n => UInt8.ofNat (n % 256) :: le k (n / 256)
@[simp] theorem le_length (k n : Nat) : (le k n).length = k := by
  induction k generalizing n with
  | zero => rfl
  | succ k ih => simp [le, ih]
theorem leNat_lt (l : List UInt8) : leNat l < 256 ^ l.length := by
  induction l with
  | nil => simp [leNat]
  | cons x r ih =>
    have := x.toNat_lt
    simp only [leNat, List.length_cons, Nat.pow_succ]
    omega
theorem leNat_append (a b : List UInt8) : leNat (a ++ b) = leNat a + 256 ^ a.length * leNat b := by
  induction a with
  | nil => simp [leNat]
  | cons x r ih =>
    simp only [List.cons_append, leNat, ih, List.length_cons, Nat.pow_succ, Nat.mul_add, Nat.add_assoc]
    congr 2
    rw [Nat.mul_comm (256 ^ r.length) 256, Nat.mul_assoc]
theorem le_snoc (k n : Nat) : le (k + 1) n = le k n ++ [UInt8.ofNat (n / 256 ^ k % 256)] := by
  induction k generalizing n with
  | zero => simp [le]
  | succ k ih =>
    rw [le, ih, le, List.cons_append]
    congr 3
    rw [Nat.div_div_eq_div_mul, Nat.pow_succ, Nat.mul_comm]
theorem leNat_le (k n : Nat) : leNat (le k n) = n % 256 ^ k := by
  induction k generalizing n with
  | zero => simp [le, leNat, Nat.mod_one]
  | succ k ih =>
    rw [le, leNat, ih]
    have h1 : (UInt8.ofNat (n % 256)).toNat = n % 256 := by simp
    rw [h1, Nat.pow_succ, Nat.mul_comm (256 ^ k) 256, Nat.mod_mul]
theorem leNat_le_of (k n : Nat) (h : n < 256 ^ k) : leNat (le k n) = n := by rw [leNat_le, Nat.mod_eq_of_lt h]
theorem le_leNat (l : List UInt8) : le l.length (leNat l) = l := by
  induction l with
  | nil => rfl
  | cons x r ih =>
    have := x.toNat_lt
    have h1 : leNat (x :: r) % 256 = x.toNat := by simp only [leNat]; omega
    have h2 : leNat (x :: r) / 256 = leNat r := by simp only [leNat]; omega
    rw [List.length_cons, le, h1, h2, ih]
    simp
theorem le_mod (k n : Nat) : le k (n % 256 ^ k) = le k n := by
  induction k generalizing n with
  | zero => rfl
  | succ k ih =>
    rw [le, le, ← ih (n / 256)]
    have e : n % 256 ^ (k + 1) % 256 = n % 256 := by
      rw [Nat.pow_succ]; exact Nat.mod_mul_left_mod _ _ _
    have e2 : n % 256 ^ (k + 1) / 256 % 256 ^ k = n / 256 % 256 ^ k := by
      rw [Nat.pow_succ, Nat.mul_comm, Nat.mod_mul_right_div_self, Nat.mod_mod]
    rw [e, ← e2, ih]
/-- The number of the bytes from one on. -/
def part (l : List UInt8) (a k : Nat) : Nat := leNat ((l.drop a).take k)
theorem part_lt (l : List UInt8) (a k : Nat) : part l a k < 256 ^ k := by
  unfold part
  refine Nat.lt_of_lt_of_le (leNat_lt _) (Nat.pow_le_pow_right (by decide) ?_)
  simp; omega
theorem part_zero (l : List UInt8) (a : Nat) : part l a 0 = 0 := by simp [part, leNat]
theorem part_succ (l : List UInt8) (a k : Nat) (h : a + k < l.length) : part l a (k + 1) = part l a k + 256 ^ k * (l.getD (a + k) 0).toNat := by
  unfold part
  have h1 : k < (l.drop a).length := by simp; omega
  rw [List.take_succ_eq_append_getElem h1, leNat_append]
  have h2 : ((l.drop a).take k).length = k := by simp; omega
  rw [h2]
  have h3 : (l.drop a)[k] = l.getD (a + k) 0 := by simp [List.getElem?_eq_getElem h]
  rw [h3]; simp [leNat]

theorem i64_w (n : Int) : IntKind.i64.wrap n = wrap64 n := by unfold wrap64; exact IntKind.wrap_i64 n

/-! ### Bits: or of numbers that don't meet -/
theorem or_add (k x y : Nat) (hx : x < 2 ^ k) : x ||| (y * 2 ^ k) = x + 2 ^ k * y := by
  rw [Nat.mul_comm, Nat.or_comm]
  have := Nat.two_pow_add_eq_or_of_lt hx y
  omega

/-! ### A row whose cells are known, written -/
theorem cell_row {w : World} {g : Nat} {cur : Array Value} {t : TypeId} {f : Nat × Nat} (h : w.heap[g]? = some (.cells cur t f)) (i : Nat) : w.cell? ⟨g, i, none⟩ = cur[i]? := by
  simp [World.cell?, h]
theorem free_row {w : World} {g : Nat} {cur : Array Value} {t : TypeId} (h : w.heap[g]? = some (.cells cur t (0, 0))) (i : Nat) : w.frozen? ⟨g, i, none⟩ = false := by
  simp [World.frozen?, h]
theorem setRow_setCell {w : World} {g : Nat} {cur cs : Array Value} {t : TypeId} {f : Nat × Nat} (h : w.heap[g]? = some (.cells cur t f)) (i : Nat) (v : Value) :
    (w.setRow g cs).setCell ⟨g, i, none⟩ v = w.setRow g (cs.setIfInBounds i v) := by
  obtain ⟨hp, tape, dr, os, out⟩ := w
  simp only [World.setRow, World.setCell, World.mk.injEq, and_true]
  apply Array.ext_getElem?
  intro k
  simp only [Array.getElem?_modify]
  by_cases hk : g = k
  · subst hk
    have h' : hp[g]? = some (.cells cur t f) := h
    simp [h']
  · simp [hk]
theorem setCell_row {w : World} {g : Nat} {cur : Array Value} {t : TypeId} {f : Nat × Nat} (h : w.heap[g]? = some (.cells cur t f)) (i : Nat) (v : Value) :
    w.setCell ⟨g, i, none⟩ v = w.setRow g (cur.setIfInBounds i v) := by
  have := setRow_setCell (cs := cur) h i v
  rwa [setRow_self w g cur t f h] at this

theorem splice_nil {α : Type} (L : List α) (o : Nat) : splice L o [] = L := by simp [splice]
theorem splice_snoc {α : Type} (L : List α) (o : Nat) (l : List α) (v : α) (h : o + l.length < L.length) : (splice L o l).set (o + l.length) v = splice L o (l ++ [v]) := by
  have h1 : (L.take o).length = o := by simp; omega
  unfold splice
  apply List.ext_getElem?
  intro i
  rw [List.getElem?_set]
  simp only [List.length_append, h1, List.length_drop, List.length_cons, List.length_nil, Nat.zero_add, List.getElem?_append, List.append_assoc]
  by_cases hi : o + l.length = i
  · subst hi
    rw [if_pos rfl, if_pos (by omega), if_neg (by omega), if_neg (by omega), if_pos (by omega)]
    have e : o + l.length - o - l.length = 0 := by omega
    rw [e]; rfl
  · rw [if_neg hi]
    by_cases h2 : i < o
    · rw [if_pos h2, if_pos h2]
    · rw [if_neg h2, if_neg h2]
      by_cases h3 : i - o < l.length
      · rw [if_pos h3, if_pos h3]
      · rw [if_neg h3, if_neg h3, if_neg (by omega), List.getElem?_drop, List.getElem?_drop]
        congr 1; omega
theorem splice_get_in {α : Type} (L : List α) (o : Nat) (l : List α) (h : o + l.length ≤ L.length) (i : Nat) (hi : i < l.length) : (splice L o l)[o + i]? = l[i]? := by
  unfold splice
  have h1 : (L.take o).length = o := by simp; omega
  rw [List.getElem?_append_right (by omega), h1, Nat.add_sub_cancel_left, List.getElem?_append_left hi]
theorem splice_get_out {α : Type} (L : List α) (o : Nat) (l : List α) (h : o + l.length ≤ L.length) (i : Nat) (hi : i < o ∨ o + l.length ≤ i) : (splice L o l)[i]? = L[i]? := by
  unfold splice
  have h1 : (L.take o).length = o := by simp; omega
  rcases hi with hi | hi
  · rw [List.getElem?_append_left (by omega), List.getElem?_take_of_lt hi]
  · rw [List.getElem?_append_right (by omega), h1, List.getElem?_append_right (by omega), List.getElem?_drop]
    congr 1; omega

/-! ### A slice of bytes that can be read -/
/-- The bytes from a place of a block on. -/
def RdB (w : World) (b o : Nat) (l : List UInt8) : Prop := ∀ i, i < l.length → w.cell? ⟨b, o + i, none⟩ = some (.int .u8 ((l.getD i 0).toNat : Int))
theorem RdB.lt {w : World} {b o : Nat} {l : List UInt8} (h : RdB w b o l) (hl : 0 < l.length) : b < w.heap.size := World.block_lt_of_cell? w _ (h 0 hl)
theorem RdB.below {w w' : World} {b o : Nat} {l : List UInt8} (h : RdB w b o l) (hb : Below w.heap.size w w') : RdB w' b o l := fun i hi => by
  have := h i hi
  rw [hb.cell (World.block_lt_of_cell? w _ this)]; exact this
theorem RdB.sub {w : World} {b o : Nat} {l : List UInt8} (h : RdB w b o l) (i n : Nat) (hn : i + n ≤ l.length) : RdB w b (o + i) ((l.drop i).take n) := fun j hj => by
  have hj' : j < n := by simp at hj; omega
  have := h (i + j) (by omega)
  rw [Nat.add_assoc, this]
  simp [hj']
theorem RdB.row {w : World} {g o : Nat} {cur : Array Value} {t : TypeId} {f : Nat × Nat} (h : w.heap[g]? = some (.cells cur t f)) {l : List UInt8} (hl : ∀ i, i < l.length → cur[o + i]? = some (.int .u8 ((l.getD i 0).toNat : Int))) : RdB w g o l := fun i hi => by
  rw [cell_row h, hl i hi]
/-- A value that is a slice of these bytes. -/
def Byt (w : World) (v : Value) (l : List UInt8) : Prop :=
  (l = [] ∧ ∃ A c, v = .slice A 0 c ∧ c ≤ maxLen ∧ (A = none → c = 0)) ∨ ∃ b o c, v = .slice (some ⟨b, o, none⟩) l.length c ∧ l.length ≤ c ∧ c ≤ maxLen ∧ RdB w b o l
theorem Byt.below {w w' : World} {v : Value} {l : List UInt8} (h : Byt w v l) (hb : Below w.heap.size w w') : Byt w' v l := by
  rcases h with h | ⟨b, o, c, h1, h2, h3, h4⟩
  · exact .inl h
  · exact .inr ⟨b, o, c, h1, h2, h3, h4.below hb⟩

theorem byt_take {w : World} {b o c : Nat} {l : List UInt8} (hr : RdB w b o l) (hc : l.length ≤ c) (hm : c ≤ maxLen) (i : Nat) (hi : i ≤ l.length) : Byt w (.slice (some ⟨b, o, none⟩) i c) (l.take i) :=
  .inr ⟨b, o, c, by simp; omega, by simp; omega, hm, fun j hj => by
    have hj' : j < i := by simp at hj; omega
    rw [hr j (by omega)]; simp [hj']⟩
theorem byt_drop {w : World} {b o c : Nat} {l : List UInt8} (hr : RdB w b o l) (hc : l.length ≤ c) (hm : c ≤ maxLen) (i : Nat) (hi : i ≤ l.length) :
    Byt w (.slice (if c = i then some ⟨b, o, none⟩ else some ⟨b, o + i, none⟩) (l.length - i) (c - i)) (l.drop i) := by
  by_cases h : c = i
  · rw [if_pos h]
    exact .inr ⟨b, o, c - i, by simp, by simp; omega, by omega, fun j hj => by simp at hj; omega⟩
  · rw [if_neg h]
    refine .inr ⟨b, o + i, c - i, by simp, by simp; omega, by omega, fun j hj => ?_⟩
    have hj' : i + j < l.length := by simp at hj; omega
    rw [Nat.add_assoc, hr (i + j) hj']; simp

theorem two_of_length {α : Type} {l : List α} (h : l.length = 2) : ∃ a b, l = [a, b] := by
  match l, h with
  | [a, b], _ => exact ⟨a, b, rfl⟩
theorem three_of_length {α : Type} {l : List α} (h : l.length = 3) : ∃ a b c, l = [a, b, c] := by
  match l, h with
  | [a, b, c], _ => exact ⟨a, b, c, rfl⟩

theorem bnext {w a b : World} (h : Below w.heap.size w a) (k : Below a.heap.size a b) : Below w.heap.size w b := h.trans (k.mono h.size)
theorem bdrewN {B : Nat} {w W : World} (h : Below B w W) (n : Nat) : Below B w (W.drewN n) := ⟨h.os, h.tape, h.output, h.size, h.block⟩
theorem bcell {W w1 : World} (hb : Below W.heap.size W w1) : (∀ b o, b < W.heap.size → w1.cell? ⟨b, o, none⟩ = W.cell? ⟨b, o, none⟩) ∧ (∀ b o, b < W.heap.size → w1.frozen? ⟨b, o, none⟩ = W.frozen? ⟨b, o, none⟩) :=
  ⟨fun b o h => hb.cell (p := ⟨b, o, none⟩) h, fun b o h => hb.frozen (p := ⟨b, o, none⟩) h⟩
/-- A function that computes a number, or a truth. -/
def RetN (w : World) (n : Int) (e : Ending) (w' : World) : Prop := e = .returned (.int .i64 n) ∧ Below w.heap.size w w'
def RetT (w : World) (b : Bool) (e : Ending) (w' : World) : Prop := e = .returned (.bool b) ∧ Below w.heap.size w w'

/-! ### max and min, kept whole in a walk -/
def mxI (a b : Int) : Int := if a < b then b else a
def mnI (a b : Int) : Int := if b < a then b else a
theorem maxI_two (ats : Array TypeId) (ty : TypeId) (k k' : IntKind) (x y : Int) : Builtin.max_ ats ty #[.int k x, .int k' y] = pure (.int k (mxI x y)) := by
  simp only [Builtin.max_, List.foldlM_cons, List.foldlM_nil, Builtin.max2, gt_iff_lt, mxI]; rfl
theorem minI_two (ats : Array TypeId) (ty : TypeId) (k k' : IntKind) (x y : Int) : Builtin.min_ ats ty #[.int k x, .int k' y] = pure (.int k (mnI x y)) := by
  simp only [Builtin.min_, List.foldlM_cons, List.foldlM_nil, Builtin.min2, mnI]; rfl

/-! ### Rows of the call's own; sources of an append -/
/-- A value reads as n elements of a size, these cells. -/
def Rd (w : World) (v : Value) (size n : Nat) (cs : List Value) : Prop :=
  cs.length = n * size ∧ ((v = .slice none 0 0 ∧ n = 0) ∨ ∃ ad c, v = .slice (some ad) n c ∧ ∀ j u, cs[j]? = some u → w.cell? (ad.add j) = some u)
theorem add_at (b o j : Nat) : (⟨b, o, none⟩ : Addr).add j = ⟨b, o + j, none⟩ := by unfold Addr.add; split <;> simp_all
theorem Byt.rd {w : World} {v : Value} {l : List UInt8} (h : Byt w v l) : Rd w v 1 l.length (bvs l) := by
  refine ⟨by simp, ?_⟩
  rcases h with ⟨rfl, A, c, h1, h2, h3⟩ | ⟨b, o, c, h1, h2, h3, h4⟩
  · cases A with
    | none => exact .inl ⟨by rw [h1, h3 rfl], rfl⟩
    | some ad => exact .inr ⟨ad, c, h1, fun j u hu => by simp [bvs] at hu⟩
  · refine .inr ⟨_, c, h1, fun j u hu => ?_⟩
    have hj : j < l.length := by have := (List.getElem?_eq_some_iff.1 hu).1; simpa using this
    rw [add_at, h4 j hj, ← bvs_get l j hj]; exact hu
theorem Rd.below {w w' : World} {v : Value} {size n : Nat} {cs : List Value} (h : Rd w v size n cs) (hb : Below w.heap.size w w') : Rd w' v size n cs := by
  refine ⟨h.1, ?_⟩
  rcases h.2 with h1 | ⟨ad, c, h1, h2⟩
  · exact .inl h1
  · exact .inr ⟨ad, c, h1, fun j u hu => by have := h2 j u hu; rw [hb.cell (World.block_lt_of_cell? w _ this)]; exact this⟩
theorem own_rd {w : World} {base e size n : Nat} {v : Value} {xs : List Value} (h : w.ownsRow base e size v n xs) : Rd w v size n xs := by
  refine ⟨h.1, ?_⟩
  rcases h.2 with h1 | ⟨g, cap, cur, h1, h2, h3, h4, h5, h6, h7⟩
  · exact .inl h1
  · refine .inr ⟨_, cap, h1, fun j u hu => ?_⟩
    subst h1
    have hj : j < n * size := by have := (List.getElem?_eq_some_iff.1 hu).1; rw [h.1] at this; exact this
    rw [add_at, Nat.zero_add, cell_row h3]
    rw [← h7, List.getElem?_take_of_lt hj] at hu
    simpa using hu
theorem own_byt {w : World} {base e : Nat} {v : Value} {n : Nat} {l : List UInt8} (h : w.ownsRow base e 1 v n (bvs l)) : Byt w v l ∧ n = l.length := by
  have hn : n = l.length := by have := h.1; simp at this; omega
  subst hn
  refine ⟨?_, rfl⟩
  rcases h.2 with ⟨h1, h2⟩ | ⟨g, cap, cur, h1, h2, h3, h4, h5, h6, h7⟩
  · exact .inl ⟨List.eq_nil_of_length_eq_zero h2, none, 0, h1, by unfold maxLen; omega, fun _ => rfl⟩
  · refine .inr ⟨g, 0, cap, h1, h4, h5, fun i hi => ?_⟩
    rw [Nat.zero_add, cell_row h3, ← bvs_get l i hi, ← h7, List.getElem?_take_of_lt (by omega)]
    simp
theorem own_block_lt {w : World} {base e size n : Nat} {v : Value} {xs : List Value} (h : w.ownsRow base e size v n xs) (k : Nat) (hk : v.ownBlock = some k) : k < w.heap.size := (h.lt k hk).2
theorem own_mono {w : World} {base base' e size n : Nat} {v : Value} {xs : List Value} (h : w.ownsRow base e size v n xs) (hb : base' ≤ base) : w.ownsRow base' e size v n xs := by
  refine ⟨h.1, ?_⟩
  rcases h.2 with h1 | ⟨g, cap, cur, h1, h2, r⟩
  · exact .inl h1
  · exact .inr ⟨g, cap, cur, h1, by omega, r⟩
theorem own_below {w w' : World} {base e size n : Nat} {v : Value} {xs : List Value} (h : w.ownsRow base e size v n xs) (hb : Below w.heap.size w w') : w'.ownsRow base e size v n xs := by
  refine ⟨h.1, ?_⟩
  rcases h.2 with h1 | ⟨g, cap, cur, h1, h2, h3, r⟩
  · exact .inl h1
  · exact .inr ⟨g, cap, cur, h1, h2, (hb.block g (Array.getElem?_eq_some_iff.1 h3).1).trans h3, r⟩
theorem grown_below {base : Nat} {w w' : World} {v : Value} {e size n : Nat} {xs : List Value} (h : w.ownsRow base e size v n xs) (hg : w.grownBy w' v.ownBlock) (hb : base ≤ w.heap.size) : Below base w w' :=
  ⟨hg.os, hg.tape, hg.output, hg.size, fun k hk => hg.block k (by omega) (fun e => by have := (h.lt k e.symm).1; omega)⟩

/-- 'append(s, x...)', s the call's own, x whatever reads. -/
theorem wpList_append_rd {P : Program} (w : World) {ops : Array Oper} {rest : List Oper} {o : Oper} {a : Act} {Q : Exit → Act → World → Prop} (hgd : o.guard = none) (s x : Operand) (t : TypeId)
    (ho : o.op = .call { callee := .builtin .append, args := #[s, x], argTypes := #[t, t] })
    (base : Nat) (e : TypeId) (z : Value) (size bytes : Nat) (ht : P.underlying t = some (.slice e)) (hinfo : (P.info? e).map (fun i => (i.zero, i.size, i.bytes)) = some (some z, size, bytes))
    (hzs : z.cells.size = size) (hsz : 0 < size)
    (v : Value) (n : Nat) (xs : List Value) (hs : a.eval s = v) (hown : w.ownsRow base e size v n xs)
    (u : Value) (m : Nat) (news : List Value) (hx : a.eval x = u) (hu : Rd w u size m news) (h1 : ∀ u ∈ news, u.oneCell' = true)
    (hbytes : (n + m) * bytes ≤ 140737488355328) (hby : 0 < bytes) (hbase : base ≤ w.heap.size)
    (h : ∀ v' w', w'.ownsRow base e size v' (n + m) (xs ++ news) → Below base w w' → w.grownBy w' v.ownBlock → wpList P ops Q rest (a.put o.dst v') w') : wpList P ops Q (o :: rest) a w := by
  obtain ⟨i, hi, hz, hsi, hbi⟩ := info_parts hinfo
  have h63 : n + m ≤ maxLen := by
    have : n + m ≤ (n + m) * bytes := Nat.le_mul_of_pos_right _ hby
    unfold maxLen; omega
  rcases hu.2 with ⟨rfl, rfl⟩ | ⟨ad, c, rfl, hc⟩
  · have hnews : news = [] := List.eq_nil_of_length_eq_zero (by simpa using hu.1)
    subst hnews
    refine wpList_plain hgd fun K hK' => ?_
    have hrun := run_append_owned_none (P := P) (w := w) base t o.type e i size ht hi v n xs hown
    unfold Oper.wp
    simp [execOp, ho, resolve, invoke, builtin, hs, hx, hrun, Result.andThen]
    exact hK' _ _ (by simpa using h v w (by simpa using hown) (Below.refl _ _) (World.grownBy.refl _ _))
  · exact wpList_append_own w hgd s x t ho base e i z size bytes ht hi hz hsi hbi hzs hsz v n xs hs hown ad m c news hx hu.1 hc h1 h63 hbytes hbase
      (fun v' w' h2 h3 _ => h v' w' h2 (grown_below hown h3 hbase) h3)

/-- The row of one element that a literal lays. -/
theorem rd_one {w : World} {g : Nat} {t : TypeId} {v : Value} (h : w.heap[g]? = some (.cells #[v] t (0, 0))) (c : Nat) : Rd w (.slice (some ⟨g, 0, none⟩) 1 c) 1 1 [v] :=
  ⟨rfl, .inr ⟨_, c, rfl, fun j u hu => by
    have hj : j < 1 := by have := (List.getElem?_eq_some_iff.1 hu).1; simpa using this
    obtain rfl : j = 0 := by omega
    rw [add_at, cell_row h]; simpa using hu⟩⟩
/-- 'make([]T, n)' -/
theorem wpList_make_rd {P : Program} (w : World) {ops : Array Oper} {rest : List Oper} {o : Oper} {a : Act} {Q : Exit → Act → World → Prop} (hg : o.guard = none) (l c : Operand) (t : TypeId) (hop : o.op = Op.makeSlice t l c)
    (base : Nat) (e : TypeId) (z : Value) (size bytes : Nat) (h1 : P.underlying t = some (.slice e)) (hinfo : (P.info? e).map (fun i => (i.zero, i.size, i.bytes)) = some (some z, size, bytes))
    (L C : Int) (n : Nat) (hl : a.eval l = .int .i64 L) (hc : a.eval c = .int .i64 C) (hL : L = (n : Int)) (hC : C = (n : Int)) (b2 : bytes * n ≤ 281474976710656) (b3 : n ≤ maxLen) (b4 : base ≤ w.heap.size)
    (hK : ∀ w', w'.ownsRow base e size (.slice (some ⟨w.heap.size, 0, none⟩) n n) n (madeCells z.cells (n * size)).toList → Below w.heap.size w w' → wpList P ops Q rest (a.put o.dst (.slice (some ⟨w.heap.size, 0, none⟩) n n)) w') :
    wpList P ops Q (o :: rest) a w := by
  obtain ⟨i, hi, hz, hsi, hbi⟩ := info_parts hinfo
  exact wpList_make_full w hg l c t hop base e i z size h1 hi hz hsi .i64 .i64 L C n hl hc hL hC (by rw [hbi]; exact b2) b3 b4
    (fun w' h2 h3 => hK w' h2 ⟨h3.os, h3.tape, h3.output, h3.size, fun k hk => h3.block k hk (by simp)⟩)
theorem made_bytes (n : Nat) : (madeCells (Value.int .u8 0).cells (n * 1)).toList = bvs (List.replicate n 0) := by
  rw [show (Value.int .u8 0).cells = #[Value.int .u8 0] from rfl, toList_madeCells_one, Nat.mul_one]
  simp [bvs, bval]
/-- What a function comes to that hands back bytes of its own. -/
def RetB (E : TypeId) (w : World) (l : List UInt8) (e : Ending) (w' : World) : Prop := ∃ v, e = .returned v ∧ w'.ownsRow w.heap.size E 1 v l.length (bvs l) ∧ Below w.heap.size w w'
end Go.Proofs.Ytcpfafmkhegckaa
/-
  What every statement's row needs: arguments opened into plain words on bytes and numbers.
-/
namespace Go.Proofs.Ytcpfafmkhegckaa
open Go.ChangeShapes Go.WideShapes Go.ChangeAt Go.RowKit
set_option linter.unusedVariables false
theorem own_ : ownKnob Try.prog.godebug = none := by kernel_rfl
theorem laidOut_ : laidOutB Try.prog = true := by kernel_rfl

theorem wf_i64 {n : Int} (h : (Lit.int .i64 n).wf = true) : -9223372036854775808 ≤ n ∧ n ≤ 9223372036854775807 := by
  simp [Lit.wf, IntKind.min, IntKind.max, IntKind.signed, IntKind.bits] at h; omega
theorem wf_u64 {n : Int} (h : (Lit.int .u64 n).wf = true) : ∃ x : Nat, n = (x : Int) ∧ x < 2 ^ 64 := by
  simp [Lit.wf, IntKind.min, IntKind.max, IntKind.signed, IntKind.bits] at h
  exact ⟨n.toNat, by omega, by omega⟩
theorem wf_u32 {n : Int} (h : (Lit.int .u32 n).wf = true) : ∃ x : Nat, n = (x : Int) ∧ x < 2 ^ 32 := by
  simp [Lit.wf, IntKind.min, IntKind.max, IntKind.signed, IntKind.bits] at h
  exact ⟨n.toNat, by omega, by omega⟩
theorem wf_u8 {n : Int} (h : (Lit.int .u8 n).wf = true) : ∃ x : UInt8, n = (x.toNat : Int) := by
  simp [Lit.wf, IntKind.min, IntKind.max, IntKind.signed, IntKind.bits] at h
  exact ⟨UInt8.ofNat n.toNat, by simp; omega⟩
section
variable {H : Type} {enc : TypeId × Value → H} {P : Program} {W : World} {base : Nat} {spare : Nat → Bool} {held : Bool}
theorem trod_places_lt {t : TypeId} {v : Value} {d : DataW H} {ps : List MemPlace} (h : DataW.Trod enc P W base spare held t v d ps) : ∀ x ∈ ps, x.block < W.heap.size := by
  obtain ⟨m, hm⟩ := h
  exact DataW.trod_lt m _ _ _ hm
/-- Bytes that came in. -/
theorem open_bytes {t e : TypeId} {v : Value} {d : DataW H} {ps : List MemPlace} {ts : List TypeId} {ds : List (DataW H)} {j : Nat} {r : Reach} {b0 : Nat}
    (hsz : (DataW.weightsEach P ts ds).all (· ≤ reachBytes) = true) (ht : ts[j]? = some t) (hd : ds[j]? = some d) (hu : P.underlying t = some (.slice e)) (he : P.underlying e = some (.int .u8)) (hc : P.cellsOf e = 1) (hB : P.bytesOf e = 1)
    (hv : Value.okWide P W r b0 t v) (h : DataW.Trod enc P W base spare held t v d ps) : ∃ l : List UInt8, Byt W v l ∧ l.length ≤ 140737488351232 := by
  obtain ⟨a, len, cap, rfl⟩ := okWide_slice hu hv
  obtain ⟨fuel, hf⟩ := h
  rcases open_ints hu he hc hf with ⟨hcs, _⟩ | ⟨x, l, c, zs, hcs, _, hl, hm, hz, hx, hcell, hwz⟩
  · simp [Value.cells] at hcs
    obtain ⟨rfl, rfl, rfl⟩ := hcs
    exact ⟨[], .inl ⟨rfl, none, 0, rfl, by simp [maxLen], fun _ => rfl⟩, by simp⟩
  · simp [Value.cells] at hcs
    obtain ⟨rfl, rfl, rfl⟩ := hcs
    obtain ⟨hx, _⟩ := Prod.mk.inj hx
    subst hx
    have hl2 : len ≤ zs.length := by rw [hz]; split <;> omega
    have hlen : len ≤ 140737488351232 := by
      have z := sized_slice hsz ht hd hu
      rw [hB] at z
      have h1 : (lits (H := H) IntKind.u8 (zs.take len)).length + (lits (H := H) IntKind.u8 (zs.drop len)).length = zs.length := by simp [lits]; omega
      rw [h1] at z
      unfold reachBytes at z
      omega
    have hll : ((zs.take len).map fun n => UInt8.ofNat n.toNat).length = len := by simp; omega
    refine ⟨(zs.take len).map fun n => UInt8.ofNat n.toNat, ?_, by omega⟩
    by_cases h0 : len = 0
    · subst h0
      exact .inl ⟨by simp, some x, cap, rfl, hm, fun h => by cases h⟩
    · have hx0 := hcell 0 (by omega)
      obtain ⟨b, o, sp⟩ := x
      have hsp : sp = none := by
        cases sp with
        | none => rfl
        | some s =>
          have e1 : (⟨b, o, some s⟩ : Addr).add 0 = ⟨b, o, some s⟩ := by simp [Addr.add]
          rw [e1] at hx0
          unfold World.cell? at hx0
          split at hx0 <;> simp at hx0
      subst hsp
      refine .inr ⟨b, o, cap, by rw [hll], by omega, hm, fun i hi => ?_⟩
      have hi' : i < len := by omega
      have := hcell i (by omega)
      rw [add_at] at this
      rw [this]
      obtain ⟨y, hy⟩ := wf_u8 (hwz (zs.getD i 0) (by
        rw [List.getD_eq_getElem?_getD, List.getElem?_eq_getElem (by omega)]; exact List.getElem_mem _))
      have : ((zs.take len).map fun n => UInt8.ofNat n.toNat).getD i 0 = y := by
        simp only [List.getD_eq_getElem?_getD, List.getElem?_map, List.getElem?_take_of_lt hi']
        rw [List.getD_eq_getElem?_getD, List.getElem?_eq_getElem (by omega)] at hy
        rw [List.getElem?_eq_getElem (by omega)]
        simp only [Option.getD_some, Option.map_some] at hy ⊢
        rw [hy]; simp
      rw [this, hy]
/-- An array of whole numbers that came in. -/
theorem open_int_array {n : Nat} {t e : TypeId} {k : IntKind} {v : Value} {d : DataW H} {ps : List MemPlace} {r : Reach} {b0 : Nat}
    (hu : P.underlying t = some (.array n e)) (he : P.underlying e = some (.int k)) (hc : P.cellsOf e = 1) (hn : P.cellsOf t = n)
    (hv : Value.okWide P W r b0 t v) (h : DataW.Trod enc P W base spare held t v d ps) : ∃ zs : List Int, v = .agg (zs.map (Value.int k)).toArray ∧ zs.length = n ∧ ∀ z ∈ zs, (Lit.int k z).wf = true := by
  have hagg : ∃ cs, v = .agg cs ∧ cs.size = n := by
    unfold Value.okWide at hv
    rw [hu] at hv
    obtain ⟨cs, h1, h2, _⟩ := hv
    exact ⟨cs, h1, by rw [h2, hn]⟩
  obtain ⟨cs, rfl, hcs⟩ := hagg
  obtain ⟨fuel, hf⟩ := h
  obtain ⟨xs, m, _, _, hl, hxl, hg⟩ := DataW.trod_array hu hf
  have each : ∀ i, i < n → ∃ z, cs.toList[i]? = some (Value.int k z) ∧ (Lit.int k z).wf = true := fun i hi => by
    have h1 := hg i hi
    rw [hc, Nat.mul_one] at h1
    have hi' : i < cs.toList.length := by simpa [hcs] using hi
    have h2 : ((Value.agg cs).cells.toList.drop i).take 1 = [cs.toList[i]] := by
      simp only [Value.cells]
      rw [List.drop_eq_getElem_cons hi']; rfl
    rw [h2, List.getElem?_eq_getElem (by omega)] at h1
    obtain ⟨z, hz, _, hw⟩ := DataW.trod_int he h1
    simp at hz
    exact ⟨z, by rw [List.getElem?_eq_getElem hi']; simpa using hz, hw⟩
  let f : Value → Int := fun u => match u with | .int _ z => z | _ => 0
  have hall : cs.toList = (cs.toList.map f).map (Value.int k) := by
    apply List.ext_getElem?
    intro i
    by_cases hi : i < n
    · obtain ⟨z, hz, _⟩ := each i hi
      simp only [List.getElem?_map, hz, Option.map_some]; rfl
    · rw [List.getElem?_eq_none (by simpa [hcs] using hi), List.getElem?_eq_none (by simpa [hcs] using hi)]
  refine ⟨cs.toList.map f, ?_, by simpa using hcs, fun z hz => ?_⟩
  · rw [← hall]
  · obtain ⟨u, hu', rfl⟩ := List.mem_map.1 hz
    obtain ⟨i, hi, rfl⟩ := List.getElem_of_mem hu'
    obtain ⟨z, hz', hw⟩ := each i (by simpa [hcs] using hi)
    rw [List.getElem?_eq_getElem hi] at hz'
    rw [Option.some.inj hz']
    exact hw
end
end Go.Proofs.Ytcpfafmkhegckaa
/-
  CRC-32: plain, and the two functions that compute it.
-/
namespace Go.Proofs.Ytcpfafmkhegckaa
open Go.RowKit
set_option linter.unusedVariables false
set_option linter.unusedSimpArgs false

/-! ### bits of short numbers -/
theorem wrap_u32 (n : Int) : IntKind.u32.wrap n = n % 4294967296 := by simp [IntKind.wrap, IntKind.bits, IntKind.signed]
theorem wrap_u8 (n : Int) : IntKind.u8.wrap n = n % 256 := by simp [IntKind.wrap, IntKind.bits, IntKind.signed]
theorem bits_xor_u32_nat (a b : Nat) (ha : a < 4294967296) (hb : b < 4294967296) : bits .xor .u32 (a : Int) (b : Int) = ((a ^^^ b : Nat) : Int) := by
  have hx : a ^^^ b < 2 ^ 32 := Nat.xor_lt_two_pow (by omega) (by omega)
  have h1 : (BitVec.ofInt 32 (a : Int)).toNat = a := by rw [BitVec.ofInt_natCast, BitVec.toNat_ofNat]; exact Nat.mod_eq_of_lt (by omega)
  have h2 : (BitVec.ofInt 32 (b : Int)).toNat = b := by rw [BitVec.ofInt_natCast, BitVec.toNat_ofNat]; exact Nat.mod_eq_of_lt (by omega)
  show IntKind.u32.wrap ((BitVec.ofInt 32 (a : Int) ^^^ BitVec.ofInt 32 (b : Int)).toNat : Int) = _
  rw [BitVec.toNat_xor, h1, h2, wrap_u32]; omega
theorem bits_and_u32_nat (a b : Nat) (ha : a < 4294967296) (hb : b < 4294967296) : bits .and .u32 (a : Int) (b : Int) = ((a &&& b : Nat) : Int) := by
  have hx : a &&& b < 2 ^ 32 := Nat.and_lt_two_pow _ (by omega)
  have h1 : (BitVec.ofInt 32 (a : Int)).toNat = a := by rw [BitVec.ofInt_natCast, BitVec.toNat_ofNat]; exact Nat.mod_eq_of_lt (by omega)
  have h2 : (BitVec.ofInt 32 (b : Int)).toNat = b := by rw [BitVec.ofInt_natCast, BitVec.toNat_ofNat]; exact Nat.mod_eq_of_lt (by omega)
  show IntKind.u32.wrap ((BitVec.ofInt 32 (a : Int) &&& BitVec.ofInt 32 (b : Int)).toNat : Int) = _
  rw [BitVec.toNat_and, h1, h2, wrap_u32]; omega
theorem bits_or_u8_nat (a b : Nat) (ha : a < 256) (hb : b < 256) : bits .or .u8 (a : Int) (b : Int) = ((a ||| b : Nat) : Int) := by
  have hx : a ||| b < 2 ^ 8 := Nat.or_lt_two_pow (by omega) (by omega)
  have h1 : (BitVec.ofInt 8 (a : Int)).toNat = a := by rw [BitVec.ofInt_natCast, BitVec.toNat_ofNat]; exact Nat.mod_eq_of_lt (by omega)
  have h2 : (BitVec.ofInt 8 (b : Int)).toNat = b := by rw [BitVec.ofInt_natCast, BitVec.toNat_ofNat]; exact Nat.mod_eq_of_lt (by omega)
  show IntKind.u8.wrap ((BitVec.ofInt 8 (a : Int) ||| BitVec.ofInt 8 (b : Int)).toNat : Int) = _
  rw [BitVec.toNat_or, h1, h2, wrap_u8]; omega

/-! ### the sum, plain -/
def crcBit (c : Nat) : Nat := if c % 2 = 1 then c / 2 ^^^ 3988292384 else c / 2
def crcBits : Nat → Nat → Nat
  | 0, c => c
  | k + 1, c => crcBit (crcBits k c)
def crcByte (c : Nat) (x : UInt8) : Nat := crcBits 8 (c ^^^ x.toNat)
def crcAll (l : List UInt8) : Nat := l.foldl crcByte 4294967295
def crc (l : List UInt8) : Nat := 4294967295 - crcAll l
theorem crcBit_lt {c : Nat} (h : c < 4294967296) : crcBit c < 4294967296 := by
  unfold crcBit
  split
  · have : c / 2 ^^^ 3988292384 < 2 ^ 32 := Nat.xor_lt_two_pow (by omega) (by decide)
    omega
  · omega
theorem crcBits_lt {c : Nat} (k : Nat) (h : c < 4294967296) : crcBits k c < 4294967296 := by
  induction k with
  | zero => exact h
  | succ k ih => exact crcBit_lt ih
theorem xor_byte_lt {c : Nat} (x : UInt8) (h : c < 4294967296) : c ^^^ x.toNat < 4294967296 := by
  have hx := x.toNat_lt
  have : c ^^^ x.toNat < 2 ^ 32 := Nat.xor_lt_two_pow (by omega) (by omega)
  omega
theorem crcByte_lt {c : Nat} (x : UInt8) (h : c < 4294967296) : crcByte c x < 4294967296 := crcBits_lt 8 (xor_byte_lt x h)
theorem crcFold_lt (l : List UInt8) : ∀ c, c < 4294967296 → l.foldl crcByte c < 4294967296 := by
  induction l with
  | nil => exact fun c h => h
  | cons x r ih => exact fun c h => ih _ (crcByte_lt x h)
theorem crcAll_lt (l : List UInt8) : crcAll l < 4294967296 := crcFold_lt l _ (by decide)
theorem crc_lt (l : List UInt8) : crc l < 4294967296 := by unfold crc; omega
theorem crcAll_take (l : List UInt8) (j : Nat) (h : j < l.length) : crcAll (l.take (j + 1)) = crcByte (crcAll (l.take j)) (l.getD j 0) := by
  rw [List.take_succ_eq_append_getElem h]
  unfold crcAll
  rw [List.foldl_append, List.getD_eq_getElem?_getD, List.getElem?_eq_getElem h]
  rfl
theorem xor_cut {a b p : Nat} (h : a ^^^ p = b ^^^ p) : a = b := by
  have := congrArg (· ^^^ p) h
  simpa [Nat.xor_assoc] using this
theorem xor_cut' {a b p : Nat} (h : p ^^^ a = p ^^^ b) : a = b := xor_cut (p := p) (by rw [Nat.xor_comm a, Nat.xor_comm b]; exact h)
theorem crcBit_inj {a b : Nat} (ha : a < 4294967296) (hb : b < 4294967296) (h : crcBit a = crcBit b) : a = b := by
  have top : ∀ x : Nat, x < 2 ^ 31 → (x ^^^ 3988292384).testBit 31 = true := fun x hx => by
    rw [Nat.testBit_xor, Nat.testBit_lt_two_pow hx]; decide
  unfold crcBit at h
  have ha2 : a / 2 < 2 ^ 31 := by omega
  have hb2 : b / 2 < 2 ^ 31 := by omega
  split at h <;> split at h
  · have := xor_cut h
    omega
  · have h1 := top _ ha2
    rw [h, Nat.testBit_lt_two_pow hb2] at h1; cases h1
  · have h1 := top _ hb2
    rw [← h, Nat.testBit_lt_two_pow ha2] at h1; cases h1
  · omega
theorem crcBits_inj (k : Nat) {a b : Nat} (ha : a < 4294967296) (hb : b < 4294967296) (h : crcBits k a = crcBits k b) : a = b := by
  induction k with
  | zero => exact h
  | succ k ih => exact ih (crcBit_inj (crcBits_lt k ha) (crcBits_lt k hb) h)
theorem crcByte_inj {a b : Nat} (x : UInt8) (ha : a < 4294967296) (hb : b < 4294967296) (h : crcByte a x = crcByte b x) : a = b :=
  xor_cut (crcBits_inj 8 (xor_byte_lt x ha) (xor_byte_lt x hb) h)
theorem crcByte_inj' {c : Nat} (x y : UInt8) (hc : c < 4294967296) (h : crcByte c x = crcByte c y) : x = y :=
  UInt8.toNat_inj.1 (xor_cut' (crcBits_inj 8 (xor_byte_lt x hc) (xor_byte_lt y hc) h))
theorem crcFold_inj (l : List UInt8) : ∀ a b, a < 4294967296 → b < 4294967296 → l.foldl crcByte a = l.foldl crcByte b → a = b := by
  induction l with
  | nil => exact fun a b _ _ h => h
  | cons x r ih => exact fun a b ha hb h => crcByte_inj x ha hb (ih _ _ (crcByte_lt x ha) (crcByte_lt x hb) h)
/-- One byte turned: another sum. -/
theorem crc_set (l : List UInt8) (i : Nat) (x : UInt8) (hi : i < l.length) (h : crc (l.set i x) = crc l) : l.getD i 0 = x := by
  have h1 := crcAll_lt (l.set i x)
  have h2 := crcAll_lt l
  have h3 : crcAll (l.set i x) = crcAll l := by unfold crc at h; omega
  have e1 : l.set i x = l.take i ++ x :: l.drop (i + 1) := List.set_eq_take_append_cons_drop.trans (if_pos hi)
  have e2 : l = l.take i ++ l[i] :: l.drop (i + 1) := by rw [List.getElem_cons_drop hi, List.take_append_drop]
  have h4 : crcAll (l.take i ++ x :: l.drop (i + 1)) = crcAll (l.take i ++ l[i] :: l.drop (i + 1)) := by rw [← e1, ← e2]; exact h3
  unfold crcAll at h4
  rw [List.foldl_append, List.foldl_append, List.foldl_cons, List.foldl_cons] at h4
  have hc := crcFold_lt (l.take i) 4294967295 (by decide)
  have h5 := crcFold_inj _ _ _ (crcByte_lt _ hc) (crcByte_lt _ hc) h4
  have h6 := crcByte_inj' _ _ hc h5
  simp [List.getElem?_eq_getElem hi, h6]

/-! ### the walks -/
theorem crc_mod (c : Nat) (h : c < 4294967296) : bits .and .u32 (c : Int) 1 = ((c % 2 : Nat) : Int) := by
  have := bits_and_u32_nat c 1 h (by decide)
  rw [show ((1 : Nat) : Int) = 1 from rfl, Nat.and_one_is_mod] at this
  exact this
theorem crc_xor (c : Nat) (h : c < 4294967296) : bits .xor .u32 ((c : Int) / 2) 3988292384 = ((c / 2 ^^^ 3988292384 : Nat) : Int) := by
  have := bits_xor_u32_nat (c / 2) 3988292384 (by omega) (by decide)
  rw [Int.natCast_ediv] at this
  exact this
theorem crc_in (c : Nat) (x : Nat) (h : c < 4294967296) (hx : x < 256) : bits .xor .u32 (c : Int) ((x : Int) % 4294967296) = ((c ^^^ x : Nat) : Int) := by
  have e : (x : Int) % 4294967296 = (x : Int) := by omega
  rw [e]; exact bits_xor_u32_nat c x h (by omega)
theorem not_u32 (c : Nat) (h : c < 4294967296) : 4294967295 ^^^ c = 4294967295 - c := by
  apply Nat.eq_of_testBit_eq
  intro i
  have h1 := Nat.testBit_two_pow_sub_succ (n := 32) (x := c) (by omega) i
  rw [show (2 : Nat) ^ 32 - (c + 1) = 4294967295 - c by omega] at h1
  rw [h1, Nat.testBit_xor, show (4294967295 : Nat) = 2 ^ 32 - 1 by decide, Nat.testBit_two_pow_sub_one]
  by_cases hi : i < 32
  · simp [hi]
  · simp only [hi, decide_false, Bool.false_and, Bool.false_bne]
    exact Nat.testBit_lt_two_pow (Nat.lt_of_lt_of_le (show c < 2 ^ 32 by omega) (Nat.pow_le_pow_right (by decide) (by omega)))
theorem crc_not (c : Nat) (h : c < 4294967296) : bits .xor .u32 IntKind.u32.max (c : Int) = ((4294967295 - c : Nat) : Int) := by
  have := bits_xor_u32_nat 4294967295 c (by decide) h
  rw [not_u32 c h] at this
  exact this
set_option maxHeartbeats 1000000 in
theorem crc_some (b o c : Nat) (l : List UInt8) (w : World) (hn : l.length ≤ 140737488355328) (hr : RdB w b o l) :
    Calls Try.prog 108 #[.slice (some ⟨b, o, none⟩) l.length c] w fun e w' => e = .returned (.int .u32 (crc l)) ∧ w = w' := by
  have HR := Lib.hid hr; clear hr
  have HN := Lib.hid hn; clear hn
  go_enter Try.func108, Try.ntmps108
  go_wp2
  go_loop [3, 5, 6, 9, 17] (fun s x y i k => ∃ j : Nat, j ≤ l.length ∧ i = .int .i64 j ∧ s = .int .u32 (crcAll (l.take j) : Nat)) (fun _ _ _ i _ => (l.length - intOf i).toNat)
  case atStart => exact ⟨0, by omega, by rfl, by simp [crcAll]⟩
  case round =>
    obtain ⟨j, hj, rfl, rfl⟩ := hrel
    by_cases hlt : j < l.length
    · obtain ⟨x, hx⟩ : ∃ x, x = l.getD j 0 := ⟨_, rfl⟩
      have hcell := HR.out j hlt
      have hnext := crcAll_take l j hlt
      have hc0 := crcAll_lt (l.take j)
      rw [← hx] at hcell hnext
      obtain ⟨c0, hc⟩ : ∃ c0, c0 = crcAll (l.take j) := ⟨_, rfl⟩
      rw [← hc] at hnext hc0 ⊢
      have hin := crc_in c0 x.toNat hc0 x.toNat_lt
      have hlt1 := xor_byte_lt x hc0
      have HI := Lib.hid hin
      have HL1 := Lib.hid hlt1
      have HNX := Lib.hid hnext
      clear hin hlt1 hnext hc0 hx hc
      go_wp2
      rw [HI.out]
      go_loop [3, 6, 17] (fun s y k => ∃ q : Nat, q ≤ 8 ∧ k = .int .i64 q ∧ s = .int .u32 (crcBits q (c0 ^^^ x.toNat) : Nat)) (fun _ _ k => (8 - intOf k).toNat)
      case atStart => exact ⟨0, by omega, by rfl, by rfl⟩
      case round =>
        obtain ⟨q, hq, rfl, rfl⟩ := hrel
        by_cases hq8 : q < 8
        · have hcq := crcBits_lt q HL1.out
          obtain ⟨d, hd⟩ : ∃ d, d = crcBits q (c0 ^^^ x.toNat) := ⟨_, rfl⟩
          have hdn : crcBits (q + 1) (c0 ^^^ x.toNat) = crcBit d := by rw [hd]; rfl
          rw [← hd] at hcq ⊢
          have hmod := crc_mod d hcq
          have hxor := crc_xor d hcq
          have HM := Lib.hid hmod
          have HX := Lib.hid hxor
          have HDN := Lib.hid hdn
          have HCQ := Lib.hid hcq
          clear hmod hxor hdn hd hcq
          go_wp2
          · rename_i hodd
            rw [HM.out] at hodd
            refine ⟨⟨q + 1, by omega, by go_num, ?_⟩, by simp [intOf]; omega⟩
            have h1 : d % 2 = 1 := by simp at hodd; omega
            rw [HDN.out, HX.out]
            unfold crcBit
            rw [if_pos h1]
          · rename_i hodd
            rw [HM.out] at hodd
            refine ⟨⟨q + 1, by omega, by go_num, ?_⟩, by simp [intOf]; omega⟩
            have h1 : ¬ d % 2 = 1 := by simp at hodd; omega
            rw [HDN.out]
            unfold crcBit
            rw [if_neg h1]
            simp
        · go_wp2
          obtain rfl : q = 8 := by omega
          have hn := HN.out
          have hwj : wrap64 ((j : Int) + 1) = ((j + 1 : Nat) : Int) := by rw [← i64_w, Int.natCast_add]; exact IntWalk.i64_in _ (by omega)
          rw [hwj]
          refine ⟨⟨j + 1, by omega, rfl, ?_⟩, by simp [intOf]; omega⟩
          rw [HNX.out]; rfl
    · go_wp2
      obtain rfl : j = l.length := by omega
      go_ret
      refine ⟨?_, rfl⟩
      rw [List.take_length, crc_not _ (crcAll_lt l)]; rfl
theorem crc_any (v : Value) (l : List UInt8) (w : World) (hn : l.length ≤ 140737488355328) (hv : Byt w v l) :
    Calls Try.prog 108 #[v] w fun e w' => e = .returned (.int .u32 (crc l)) ∧ w = w' := by
  rcases hv with ⟨rfl, A, c, rfl, _⟩ | ⟨b, o, c, rfl, _, _, hr⟩
  · go_enter Try.func108, Try.ntmps108
    go_wp2
    go_loop [3, 5, 6, 9, 17] (fun s x y i k => i = .int .i64 0 ∧ s = .int .u32 4294967295) (fun _ _ _ i _ => 0)
    case atStart => exact ⟨rfl, rfl⟩
    case round =>
      obtain ⟨rfl, rfl⟩ := hrel
      go_wp2
      go_ret
      exact ⟨by rfl, rfl⟩
  · exact crc_some b o c l w hn hr
end Go.Proofs.Ytcpfafmkhegckaa
/-
  The contracts of numbers in bytes: package num's Put and Get, and the reference's; under the bounds that each names.
-/
namespace Go.Proofs.Ytcpfafmkhegckaa
open Go.RowKit

theorem infoU8 : (Try.prog.info? 5).map (fun i => (i.zero, i.size, i.bytes)) = some (some (.int .u8 0), 1, 1) := by kernel_rfl

/-! ### fits -/
def fitsB (n : Nat) (at_ width : Int) : Bool := decide (1 ≤ width ∧ width ≤ 8 ∧ 0 ≤ at_ ∧ at_ + width ≤ n)
theorem fitsB_iff (n : Nat) (at_ width : Int) : fitsB n at_ width = true ↔ (1 ≤ width ∧ width ≤ 8 ∧ 0 ≤ at_ ∧ at_ + width ≤ n) := by simp [fitsB]
set_option maxHeartbeats 400000 in
theorem fits_any (b : Option Addr) (n c : Nat) (at_ width : Int) (w : World) (hn : n ≤ 140737488355328) :
    Calls Try.prog 113 #[.slice b n c, .int .i64 at_, .int .i64 width] w fun e w' => e = .returned (.bool (fitsB n at_ width)) ∧ w = w' := by
  by_cases h1 : 1 ≤ width
  · by_cases h2 : width ≤ 8
    · by_cases h3 : 0 ≤ at_
      · by_cases h4 : at_ ≤ n
        · have h5 : decide (width ≤ (n : Int) - at_) = fitsB n at_ width := by
            unfold fitsB; congr 1; simp; omega
          have H5 := Lib.hid h5; clear h5
          go_enter Try.func113, Try.ntmps113
          go_wp2
          go_ret
          exact ⟨by simp [← H5.out], rfl⟩
        · have h5 : fitsB n at_ width = false := by unfold fitsB; simp; omega
          have H5 := Lib.hid h5; clear h5
          go_enter Try.func113, Try.ntmps113
          go_wp2
          go_ret
          exact ⟨by simp [H5.out], rfl⟩
      · have h5 : fitsB n at_ width = false := by unfold fitsB; simp; omega
        have H5 := Lib.hid h5; clear h5
        go_enter Try.func113, Try.ntmps113
        go_wp2
        go_ret
        exact ⟨by simp [H5.out], rfl⟩
    · have h5 : fitsB n at_ width = false := by unfold fitsB; simp; omega
      have H5 := Lib.hid h5; clear h5
      go_enter Try.func113, Try.ntmps113
      go_wp2
      go_ret
      exact ⟨by simp [H5.out], rfl⟩
  · have h5 : fitsB n at_ width = false := by unfold fitsB; simp; omega
    have H5 := Lib.hid h5; clear h5
    go_enter Try.func113, Try.ntmps113
    go_wp2
    go_ret
    exact ⟨by simp [H5.out], rfl⟩

/-! ### Get -/
theorem shl_byte (j x : Nat) (hj : j < 8) (hx : x < 256) : IntKind.u64.wrap (IntKind.u64.wrap (x : Int) * 2 ^ (8 * j)) = ((x * 2 ^ (8 * j) : Nat) : Int) := by
  have h1 : x * 2 ^ (8 * j) < 2 ^ 64 := by
    have : 2 ^ (8 * j) ≤ 2 ^ 56 := Nat.pow_le_pow_right (by decide) (by omega)
    calc x * 2 ^ (8 * j) ≤ 255 * 2 ^ 56 := Nat.mul_le_mul (by omega) this
      _ < 2 ^ 64 := by decide
  have e1 : IntKind.u64.wrap (x : Int) = (x : Int) := by simp [IntKind.wrap, IntKind.signed, IntKind.bits]; omega
  rw [e1]
  have e2 : ((x : Int) * 2 ^ (8 * j)) = ((x * 2 ^ (8 * j) : Nat) : Int) := by simp
  rw [e2]
  simp only [IntKind.wrap, IntKind.signed, IntKind.bits]
  simp
  omega

theorem get_step (l : List UInt8) (a j : Nat) (hj : j < 8) (h : a + j < l.length) :
    bits .or .u64 (part l a j : Int) (IntKind.u64.wrap (IntKind.u64.wrap ((l[a + j]?.getD 0).toNat : Int) * 2 ^ (8 * j))) = (part l a (j + 1) : Int) := by
  have hx : (l[a + j]?.getD 0).toNat < 256 := UInt8.toNat_lt _
  have hp := part_lt l a j
  rw [shl_byte j _ hj hx]
  have e : (256 : Nat) ^ j = 2 ^ (8 * j) := by rw [show (256 : Nat) = 2 ^ 8 by rfl, ← Nat.pow_mul]
  have h1 : 2 ^ (8 * j) ≤ 2 ^ 56 := Nat.pow_le_pow_right (by decide) (by omega)
  have h2 : (l[a + j]?.getD 0).toNat * 2 ^ (8 * j) ≤ 255 * 2 ^ 56 := Nat.mul_le_mul (by omega) h1
  rw [bits_or_u64_nat (part l a j) _ (by rw [e] at hp; omega) (by omega), or_add _ _ _ (by rw [← e]; exact hp), part_succ l a j h, e]
  simp
set_option maxHeartbeats 400000 in
theorem get_yes (b o c : Nat) (l : List UInt8) (a k : Nat) (w : World) (hn : l.length ≤ 140737488355328) (hc : RdB w b o l) (h1 : 1 ≤ k) (h8 : k ≤ 8) (hak : a + k ≤ l.length) :
    Calls Try.prog 60 #[.slice (some ⟨b, o, none⟩) l.length c, .int .i64 a, .int .i64 k] w fun e w' => e = .returned (.tuple #[.int .u64 (part l a k), .int .i64 0]) ∧ w = w' := by
  have HF := Lib.hid ((fitsB_iff l.length a k).2 (by omega))
  have HC := Lib.hid hc; clear hc
  go_enter Try.func60, Try.ntmps60
  go_wp2_with (go_at_call 113; refine (fits_any _ _ _ _ _ _ (by omega)).mono ?_; rintro e w' ⟨rfl, rfl⟩; rw [HF.out])
  go_loop [8, 16] (fun n i => ∃ j : Nat, j ≤ k ∧ i = .int .i64 j ∧ n = .int .u64 (part l a j)) (fun _ i => (k - (intOf i)).toNat)
  case atStart => exact ⟨0, by omega, by rfl, by simp [part_zero]⟩
  case round =>
    obtain ⟨j, hj, rfl, rfl⟩ := hrel
    by_cases hlt : j < k
    · have hcell := HC.out (a + j) (by omega)
      go_wp2
      go_round
      case rel => exact ⟨j + 1, by omega, by go_num, by rw [get_step l a j (by omega) (by omega)]⟩
      case measure => simp [intOf]; omega
    · go_wp2
      obtain rfl : j = k := by omega
      go_ret2
      exact ⟨rfl, rfl⟩
set_option maxHeartbeats 400000 in
theorem get_no (b : Option Addr) (n c : Nat) (at_ width : Int) (w : World) (hn : n ≤ 140737488355328) (hf : fitsB n at_ width = false) :
    Calls Try.prog 60 #[.slice b n c, .int .i64 at_, .int .i64 width] w fun e w' => e = .returned (.tuple #[.int .u64 0, .int .i64 1]) ∧ w = w' := by
  have HF := Lib.hid hf; clear hf
  go_enter Try.func60, Try.ntmps60
  go_wp2_with (go_at_call 113; refine (fits_any _ _ _ _ _ _ (by omega)).mono ?_; rintro e w' ⟨rfl, rfl⟩; rw [HF.out])
  go_ret2
  exact ⟨rfl, rfl⟩
/-- What Get answers. -/
def getN (l : List UInt8) (at_ width : Int) : Nat := if fitsB l.length at_ width then part l at_.toNat width.toNat else 0
def getE (n : Nat) (at_ width : Int) : Int := if fitsB n at_ width then 0 else 1
theorem get_any (v : Value) (l : List UInt8) (at_ width : Int) (w : World) (hn : l.length ≤ 140737488355328) (hv : Byt w v l) :
    Calls Try.prog 60 #[v, .int .i64 at_, .int .i64 width] w fun e w' => e = .returned (.tuple #[.int .u64 (getN l at_ width), .int .i64 (getE l.length at_ width)]) ∧ w = w' := by
  cases hf : fitsB l.length at_ width with
  | false =>
    have e1 : getN l at_ width = 0 := by simp [getN, hf]
    have e2 : getE l.length at_ width = 1 := by simp [getE, hf]
    rw [e1, e2]
    rcases hv with ⟨rfl, A, c, rfl, _, _⟩ | ⟨b, o, c, rfl, _, _, _⟩
    · exact get_no A 0 c at_ width w (by simp) hf
    · exact get_no _ _ c at_ width w hn hf
  | true =>
    obtain ⟨h1, h2, h3, h4⟩ := (fitsB_iff _ _ _).1 hf
    obtain ⟨a, rfl⟩ := Int.eq_ofNat_of_zero_le h3
    obtain ⟨k, rfl⟩ := Int.eq_ofNat_of_zero_le (show 0 ≤ width by omega)
    have e1 : getN l a k = part l a k := by simp [getN, hf]
    have e2 : getE l.length a k = 0 := by simp [getE, hf]
    rw [e1, e2]
    rcases hv with ⟨rfl, A, c, rfl, _, _⟩ | ⟨b, o, c, rfl, _, _, hr⟩
    · simp at h4; omega
    · exact get_yes b o c l a k w hn hr (by omega) (by omega) (by omega)

/-! ### Put -/
theorem put_byte (x j : Nat) : IntKind.u8.wrap ((x : Int) / 2 ^ (8 * j)) = ((UInt8.ofNat (x / 256 ^ j % 256)).toNat : Int) := by
  have e : (2 : Int) ^ (8 * j) = ((256 ^ j : Nat) : Int) := by
    rw [show (256 : Nat) = 2 ^ 8 by rfl, ← Nat.pow_mul]; simp
  rw [e, ← Int.natCast_ediv]
  simp [IntKind.wrap, IntKind.signed, IntKind.bits]

/-- A row's cells, some of them bytes written. -/
def written (cur : Array Value) (at_ : Nat) (l : List UInt8) : Array Value := (splice cur.toList at_ (bvs l)).toArray
theorem written_size (cur : Array Value) (at_ : Nat) (l : List UInt8) (h : at_ + l.length ≤ cur.size) : (written cur at_ l).size = cur.size := by
  unfold written; simp only [List.size_toArray]; rw [length_splice _ _ _ (by simpa using h)]; simp
theorem written_nil (cur : Array Value) (at_ : Nat) : written cur at_ [] = cur := by simp [written, bvs, splice_nil]
theorem written_snoc (cur : Array Value) (at_ : Nat) (l : List UInt8) (x : UInt8) (h : at_ + l.length < cur.size) : (written cur at_ l).setIfInBounds (at_ + l.length) (bval x) = written cur at_ (l ++ [x]) := by
  unfold written
  rw [List.setIfInBounds_toArray, bvs_append]
  have := splice_snoc cur.toList at_ (bvs l) (bval x) (by simpa using h)
  rw [bvs_length] at this
  rw [this]; rfl
theorem written_in (cur : Array Value) (at_ : Nat) (l : List UInt8) (h : at_ + l.length ≤ cur.size) (i : Nat) (hi : i < l.length) : (written cur at_ l)[at_ + i]? = some (.int .u8 ((l.getD i 0).toNat : Int)) := by
  unfold written
  rw [List.getElem?_toArray, splice_get_in _ _ _ (by simpa using h) i (by simpa using hi), bvs_get l i hi]
theorem written_out (cur : Array Value) (at_ : Nat) (l : List UInt8) (h : at_ + l.length ≤ cur.size) (i : Nat) (hi : i < at_ ∨ at_ + l.length ≤ i) : (written cur at_ l)[i]? = cur[i]? := by
  unfold written
  rw [List.getElem?_toArray, splice_get_out _ _ _ (by simpa using h) i (by simpa using hi)]
  simp
set_option maxHeartbeats 400000 in
theorem put_yes (g o n c : Nat) (cur : Array Value) (t : TypeId) (a k x : Nat) (w : World) (hg : w.heap[g]? = some (.cells cur t (0, 0))) (hon : o + n ≤ cur.size) (hn : n ≤ 140737488355328) (h1 : 1 ≤ k) (h8 : k ≤ 8) (hak : a + k ≤ n) (hx : x < 256 ^ k) :
    Calls Try.prog 107 #[.slice (some ⟨g, o, none⟩) n c, .int .i64 a, .int .i64 k, .int .u64 x] w fun e w' => e = .returned (.int .i64 0) ∧ w' = w.setRow g (written cur (o + a) (le k x)) := by
  have HF := Lib.hid ((fitsB_iff n a k).2 (by omega))
  have HG := Lib.hid hg; clear hg
  have hsh : k < 8 → (x : Int) / 2 ^ (8 * k) = 0 := fun h => by
    have e : (2 : Int) ^ (8 * k) = ((256 ^ k : Nat) : Int) := by rw [show (256 : Nat) = 2 ^ 8 by rfl, ← Nat.pow_mul]; simp
    rw [e, ← Int.natCast_ediv, Nat.div_eq_of_lt hx]; rfl
  have HX := Lib.hid hx; clear hx
  have hcut : ∀ (K : Prop), (k < 8 → (x : Int) / 2 ^ (8 * k) = 0 → K) → (¬ k < 8 → K) → K := fun K h h' => by
    by_cases h8 : k < 8
    · exact h h8 (hsh h8)
    · exact h' h8
  refine hcut _ (fun hlt he => ?_) (fun hge => ?_)
  all_goals
    clear hcut hsh
    go_enter Try.func107, Try.ntmps107
    go_wp2_with (go_at_call 113; refine (fits_any _ _ _ _ _ _ (by omega)).mono ?_; rintro e w' ⟨rfl, rfl⟩; rw [HF.out])
    try clear he
    go_loopw [27] (fun i wr => ∃ j : Nat, j ≤ k ∧ i = .int .i64 j ∧ Hid (wr = w.setRow g (written cur (o + a) (le j x)))) (fun i _ => (k - (intOf i)).toNat)
    case atStart => exact ⟨0, by omega, by rfl, by simp only [le, written_nil]; exact (setRow_self w g cur t _ HG.out).symm⟩
    case round =>
      obtain ⟨j, hj, rfl, HW⟩ := hrel
      by_cases hl : j < k
      · have hW := HW.out
        have hg' := setRow_heap w g cur (written cur (o + a) (le j x)) t _ HG.out
        rw [← hW] at hg'
        have hsz : (written cur (o + a) (le j x)).size = cur.size := written_size _ _ _ (by simp; omega)
        have hc1 : ∃ v, wr.cell? ⟨g, o + (a + j), none⟩ = some v := by
          rw [cell_row hg']
          exact ⟨_, Array.getElem?_eq_getElem (by omega)⟩
        have hc2 : wr.frozen? ⟨g, o + (a + j), none⟩ = false := free_row hg' _
        obtain ⟨v1, hc1⟩ := hc1
        have hstep : wr.setCell ⟨g, o + (a + j), none⟩ (.int .u8 (IntKind.u8.wrap ((x : Int) / 2 ^ (8 * j)))) = w.setRow g (written cur (o + a) (le (j + 1) x)) := by
          rw [setCell_row hg', hW, setRow_setRow, put_byte, le_snoc]
          have := written_snoc cur (o + a) (le j x) (UInt8.ofNat (x / 256 ^ j % 256)) (by simp; omega)
          rw [le_length, Nat.add_assoc] at this
          rw [← this]; rfl
        have HS := Lib.hid hstep
        clear hstep hg' hW hsz HW
        go_wp2
        go_roundw
        case rel => exact ⟨j + 1, by omega, by go_num, HS.out⟩
        case measure => simp [intOf]; omega
      · obtain rfl : j = k := by omega
        go_wp2
        go_ret
        exact ⟨rfl, HW.out⟩

def putOk (n : Nat) (at_ width : Int) (x : Nat) : Bool := fitsB n at_ width && decide (x < 256 ^ width.toNat)
set_option maxHeartbeats 400000 in
theorem put_no (b : Option Addr) (n c : Nat) (at_ width : Int) (x : Nat) (w : World) (hn : n ≤ 140737488355328) (hf : putOk n at_ width x = false) (hx : x < 2 ^ 64) :
    Calls Try.prog 107 #[.slice b n c, .int .i64 at_, .int .i64 width, .int .u64 x] w fun e w' => e = .returned (.int .i64 1) ∧ w = w' := by
  cases hF : fitsB n at_ width with
  | false =>
    have HF := Lib.hid hF; clear hF hf
    go_enter Try.func107, Try.ntmps107
    go_wp2_with (go_at_call 113; refine (fits_any _ _ _ _ _ _ (by omega)).mono ?_; rintro e w' ⟨rfl, rfl⟩; rw [HF.out])
    go_ret
    exact ⟨rfl, rfl⟩
  | true =>
    obtain ⟨h1, h2, h3, h4⟩ := (fitsB_iff _ _ _).1 hF
    obtain ⟨k, rfl⟩ := Int.eq_ofNat_of_zero_le (show 0 ≤ width by omega)
    simp only [putOk, hF, Bool.true_and, decide_eq_false_iff_not, Int.toNat_natCast, Nat.not_lt] at hf
    have hlt : k < 8 := by
      rcases Nat.lt_or_ge k 8 with h | h
      · exact h
      · have h8 : k = 8 := by omega
        subst h8
        exact absurd hf (by have : (256 : Nat) ^ 8 = 2 ^ 64 := by decide
                            omega)
    have hq : ((x : Int) / 2 ^ (8 * k) == 0) = false := by
      have e : (2 : Int) ^ (8 * k) = ((256 ^ k : Nat) : Int) := by rw [show (256 : Nat) = 2 ^ 8 by rfl, ← Nat.pow_mul]; simp
      rw [e, ← Int.natCast_ediv]
      have : 0 < x / 256 ^ k := Nat.div_pos hf (Nat.pow_pos (by decide))
      simp only [beq_eq_false_iff_ne]
      omega
    have hq2 : ((x : Int) / 2 ^ (8 * k) != 0) = true := by simp only [bne, hq]; rfl
    have HF := Lib.hid hF; clear hF hf
    clear hx
    go_enter Try.func107, Try.ntmps107
    go_wp2_with (go_at_call 113; refine (fits_any _ _ _ _ _ _ (by omega)).mono ?_; rintro e w' ⟨rfl, rfl⟩; rw [HF.out])
    go_ret
    exact ⟨rfl, rfl⟩

def putL (l : List UInt8) (a k x : Nat) : List UInt8 := l.take a ++ le k x ++ l.drop (a + k)
theorem putL_length (l : List UInt8) (a k x : Nat) (h : a + k ≤ l.length) : (putL l a k x).length = l.length := by simp [putL]; omega
def putR (l : List UInt8) (at_ width : Int) (x : Nat) : List UInt8 := if putOk l.length at_ width x then putL l at_.toNat width.toNat x else l
def putE (n : Nat) (at_ width : Int) (x : Nat) : Int := if putOk n at_ width x then 0 else 1
theorem putR_length (l : List UInt8) (at_ width : Int) (x : Nat) : (putR l at_ width x).length = l.length := by
  unfold putR
  split
  · rename_i h
    simp only [putOk, Bool.and_eq_true] at h
    obtain ⟨h1, h2, h3, h4⟩ := (fitsB_iff _ _ _).1 h.1
    exact putL_length _ _ _ _ (by omega)
  · rfl
/-- A number put into bytes of the call's own. -/
def PutOwn (E : TypeId) (w : World) (base : Nat) (v : Value) (l : List UInt8) (n : Int) (e : Ending) (w' : World) : Prop :=
  e = .returned (.int .i64 n) ∧ w'.ownsRow base E 1 v l.length (bvs l) ∧ w.grownBy w' v.ownBlock ∧ w'.heap.size = w.heap.size
theorem put_own (E : TypeId) (base : Nat) (v : Value) (l : List UInt8) (at_ width : Int) (x : Nat) (w : World) (hn : l.length ≤ 140737488355328) (hx : x < 2 ^ 64) (hown : w.ownsRow base E 1 v l.length (bvs l)) :
    Calls Try.prog 107 #[v, .int .i64 at_, .int .i64 width, .int .u64 x] w (PutOwn E w base v (putR l at_ width x) (putE l.length at_ width x)) := by
  have hsl : ∃ A c, v = .slice A l.length c := by
    rcases hown.2 with ⟨h1, h2⟩ | ⟨g, cap, cur, h1, _⟩
    · exact ⟨none, 0, by rw [h1, h2]⟩
    · exact ⟨_, cap, h1⟩
  cases hp : putOk l.length at_ width x with
  | false =>
    have e1 : putR l at_ width x = l := by simp [putR, hp]
    have e2 : putE l.length at_ width x = 1 := by simp [putE, hp]
    rw [e1, e2]
    obtain ⟨A, c, rfl⟩ := hsl
    refine (put_no A l.length c at_ width x w hn hp hx).mono fun e w' ⟨h1, h2⟩ => ?_
    subst h2
    exact ⟨h1, hown, World.grownBy.refl _ _, rfl⟩
  | true =>
    have e1 : putR l at_ width x = putL l at_.toNat width.toNat x := by simp [putR, hp]
    have e2 : putE l.length at_ width x = 0 := by simp [putE, hp]
    rw [e1, e2]
    simp only [putOk, Bool.and_eq_true, decide_eq_true_eq] at hp
    obtain ⟨h1, h2, h3, h4⟩ := (fitsB_iff _ _ _).1 hp.1
    obtain ⟨a, rfl⟩ := Int.eq_ofNat_of_zero_le h3
    obtain ⟨k, rfl⟩ := Int.eq_ofNat_of_zero_le (show 0 ≤ width by omega)
    simp only [Int.toNat_natCast] at hp ⊢
    rcases hown.2 with ⟨h5, h6⟩ | ⟨g, cap, cur, rfl, hb, hg, hle, hmax, hsz, htk⟩
    · omega
    · refine (put_yes g 0 l.length cap cur E a k x w hg (by omega) hn (by omega) (by omega) (by omega) hp.2).mono fun e w' ⟨h5, h6⟩ => ?_
      subst h6
      rw [Nat.zero_add]
      have hg' := setRow_heap w g cur (written cur a (le k x)) E _ hg
      refine ⟨h5, ?_, ⟨rfl, rfl, rfl, by simp, fun k' hk' hne => setRow_other w g k' _ (fun e => hne (by rw [e]; rfl))⟩, by simp⟩
      refine ⟨by simp, .inr ⟨g, cap, _, ?_, hb, hg', ?_, hmax, ?_, ?_⟩⟩
      · rw [putL_length _ _ _ _ (by omega)]
      · rw [putL_length _ _ _ _ (by omega)]; exact hle
      · rw [written_size _ _ _ (by simp; omega)]; exact hsz
      · rw [putL_length _ _ _ _ (by omega)]
        apply List.ext_getElem?
        intro i
        rw [List.getElem?_take]
        by_cases hi : i < l.length * 1
        · rw [if_pos hi]
          have hcur : ∀ j, j < l.length → cur.toList[j]? = (bvs l)[j]? := fun j hj => by
            rw [← htk, List.getElem?_take_of_lt (by omega)]
          unfold written
          simp only []
          unfold putL
          rw [bvs_append, bvs_append, List.append_assoc]
          by_cases c1 : i < a
          · rw [splice_get_out _ _ _ (by simp; omega) _ (.inl c1), hcur i (by omega), List.getElem?_append_left (by simp; omega)]
            simp [bvs, List.getElem?_take_of_lt c1]
          · by_cases c2 : i < a + k
            · obtain ⟨j, rfl⟩ : ∃ j, i = a + j := ⟨i - a, by omega⟩
              rw [splice_get_in _ _ _ (by simp; omega) _ (by simp; omega), List.getElem?_append_right (by simp; omega), List.getElem?_append_left (by simp; omega)]
              congr 1; simp; omega
            · rw [splice_get_out _ _ _ (by simp; omega) _ (.inr (by simp; omega)), hcur i (by omega), List.getElem?_append_right (by simp; omega), List.getElem?_append_right (by simp; omega)]
              simp only [bvs, List.map_drop, List.getElem?_drop, List.length_map, List.length_take, le_length]
              congr 1; omega
        · rw [if_neg hi, List.getElem?_eq_none]
          rw [bvs_length, putL_length _ _ _ _ (by omega)]; omega

/-! ### The reference -/
def hasB (width : Int) (x : Nat) : Bool := decide (1 ≤ width ∧ width ≤ 8) && decide (x < 256 ^ width.toNat)
theorem hasB_yes (k x : Nat) (h1 : 1 ≤ k) (h8 : k ≤ 8) : hasB k x = ((((x / 256 ^ k : Nat) : Int)) == 0) := by
  unfold hasB
  have hv : decide (1 ≤ (k : Int) ∧ (k : Int) ≤ 8) = true := by simp only [decide_eq_true_eq]; omega
  rw [hv, Bool.true_and, Int.toNat_natCast, Bool.eq_iff_iff, decide_eq_true_eq, beq_iff_eq, Int.natCast_eq_zero, Nat.div_eq_zero_iff_lt (Nat.pow_pos (by decide))]
theorem hasB_no (width : Int) (x : Nat) (h : ¬ (1 ≤ width ∧ width ≤ 8)) : hasB width x = false := by
  unfold hasB; rw [decide_eq_false h, Bool.false_and]
end Go.Proofs.Ytcpfafmkhegckaa
/-
  Sectors: 128 bytes by value: their loads, stores and comparisons.
-/
namespace Go.Proofs.Ytcpfafmkhegckaa
open Go.RowKit
set_option linter.unusedVariables false
set_option linter.unusedSimpArgs false
/-- A sector's value. -/
def secV (l : List UInt8) : Value := .agg (bvs l).toArray
theorem eqItems_bytes {P : Program} (d : Nat) {e : TypeId} (he : P.plainKey e = true) (hu : P.underlying e = some (.int .u8)) (w : World) (xs ys : List UInt8) : ∀ (is : List Nat), (∀ i ∈ is, i < xs.length ∧ i < ys.length) →
    (Op.eqItems (d + 1) e 1 (bvs xs).toArray (bvs ys).toArray is).run P w = .ok (is.all fun i => xs.getD i 0 == ys.getD i 0) w
  | [], _ => by simp [Op.eqItems]
  | i :: r, h => by
    obtain ⟨h1, h2⟩ := h i (by simp)
    have p1 := run_part_plain (P := P) w he (xs := (bvs xs).toArray) (off := i * 1) (v := .int .u8 ((xs.getD i 0).toNat : Int)) (by rw [Nat.mul_one, List.getElem?_toArray, bvs_get _ _ h1])
    have p2 := run_part_plain (P := P) w he (xs := (bvs ys).toArray) (off := i * 1) (v := .int .u8 ((ys.getD i 0).toNat : Int)) (by rw [Nat.mul_one, List.getElem?_toArray, bvs_get _ _ h2])
    have p3 := run_equalIn_int (P := P) w d e .u8 .u8 ((xs.getD i 0).toNat : Int) ((ys.getD i 0).toNat : Int) hu
    have ih := eqItems_bytes d he hu w xs ys r (fun j hj => h j (by simp [hj]))
    have e1 : ((((xs.getD i 0).toNat : Int)) == ((ys.getD i 0).toNat : Int)) = (xs.getD i 0 == ys.getD i 0) := by
      rw [Bool.eq_iff_iff]
      simp only [beq_iff_eq, Int.natCast_inj]
      exact ⟨fun h => UInt8.toNat_inj.1 h, fun h => by rw [h]⟩
    simp only [Op.eqItems, Sem.run_bind, p1, p2, p3, Result.andThen_ok, List.all_cons, e1]
    cases (xs.getD i 0 == ys.getD i 0)
    · simp
    · simpa using ih
theorem all_eq_iff (xs ys : List UInt8) (n : Nat) (hx : xs.length = n) (hy : ys.length = n) : ((List.range n).all fun i => xs.getD i 0 == ys.getD i 0) = decide (xs = ys) := by
  rw [Bool.eq_iff_iff]
  simp only [List.all_eq_true, List.mem_range, beq_iff_eq, decide_eq_true_eq]
  constructor
  · intro h
    apply List.ext_getElem (by omega)
    intro i h1 h2
    have := h i (by omega)
    simpa [List.getD_eq_getElem?_getD, List.getElem?_eq_getElem h1, List.getElem?_eq_getElem h2] using this
  · intro h i hi; rw [h]
/-- Two sectors compared. -/
theorem equal_sec {P : Program} {t e : TypeId} {i : TypeInfo} (hu : P.underlying t = some (.array 128 e)) (hi : P.info? e = some i) (hc : P.cellsOf e = 1) (he : P.plainKey e = true) (hue : P.underlying e = some (.int .u8)) (w : World) (xs ys : List UInt8) (hx : xs.length = 128) (hy : ys.length = 128) :
    (Op.equalIn 10000 t (secV xs) (secV ys)).run P w = .ok (decide (xs = ys)) w := by
  unfold secV
  rw [run_equalIn_array w 9999 _ _ hu hi, hc, eqItems_bytes 9998 he hue w xs ys _ (fun i hi => by simp at hi; omega), all_eq_iff xs ys 128 hx hy]
/-- The whole of a block, by value. -/
theorem wpList_load_row {P : Program} {ops : Array Oper} {rest : List Oper} {op : Oper} {a : Act} {w : World} {Q : Exit → Act → World → Prop} (hgd : op.guard = none) (ty : TypeId) (x : Operand) (ho : op.op = .load ty x)
    (g : Nat) (hx : a.eval x = .pointer (some ⟨g, 0, none⟩)) (cs : Array Value) (t : TypeId) (fr : Nat × Nat) (d : TypeDesc) (hg : w.heap[g]? = some (.cells cs t fr))
    (hu : P.underlying ty = some d) (hd : d.isRow = true) (hi : (P.info? ty).map (·.size) = some cs.size)
    (h : wpList P ops Q rest (a.put op.dst (.agg cs)) w) : wpList P ops Q (op :: rest) a w := by
  refine wpList_plain hgd fun K hK => ?_
  unfold Oper.wp execOp
  have := run_loadVar_row (P := P) w g t ty cs fr d hg hu (by cases d <;> simp_all) hi
  simp only [ho, hx, Instr.loadAt, Instr.sureAddr, Sem.run_bind, Sem.run_pure, Result.andThen_ok, this]
  exact hK _ _ h
theorem oper_load_row {P : Program} {op : Oper} {a : Act} {w : World} {K : Act → World → Prop} {Q : Exit → Act → World → Prop} (ty : TypeId) (x : Operand) (ho : op.op = .load ty x)
    (g : Nat) (hx : a.eval x = .pointer (some ⟨g, 0, none⟩)) (cs : Array Value) (t : TypeId) (fr : Nat × Nat) (d : TypeDesc) (hg : w.heap[g]? = some (.cells cs t fr))
    (hu : P.underlying ty = some d) (hd : d.isRow = true) (hi : (P.info? ty).map (·.size) = some cs.size)
    (h : K (a.put op.dst (.agg cs)) w) : Oper.wp P op a w K Q := by
  unfold Oper.wp execOp
  have := run_loadVar_row (P := P) w g t ty cs fr d hg hu (by cases d <;> simp_all) hi
  simp only [ho, hx, Instr.loadAt, Instr.sureAddr, Sem.run_bind, Sem.run_pure, Result.andThen_ok, this]
  exact h
/-- The same, guarded, where the guard says yes. -/
theorem wpList_load_row_g {P : Program} {ops : Array Oper} {rest : List Oper} {op : Oper} {a : Act} {w : World} {Q : Exit → Act → World → Prop} (hw : Region.wanted op (yielded ops a.tmps) = true) (ty : TypeId) (x : Operand) (ho : op.op = .load ty x)
    (g : Nat) (hx : a.eval x = .pointer (some ⟨g, 0, none⟩)) (cs : Array Value) (t : TypeId) (fr : Nat × Nat) (d : TypeDesc) (hg : w.heap[g]? = some (.cells cs t fr))
    (hu : P.underlying ty = some d) (hd : d.isRow = true) (hi : (P.info? ty).map (·.size) = some cs.size)
    (h : wpList P ops Q rest (a.put op.dst (.agg cs)) w) : wpList P ops Q (op :: rest) a w := by
  unfold wpList
  rw [if_pos hw]
  exact .inl (oper_load_row ty x ho g hx cs t fr d hg hu hd hi h)
theorem wpList_store_row {P : Program} {ops : Array Oper} {rest : List Oper} {op : Oper} {a : Act} {w : World} {Q : Exit → Act → World → Prop} (hgd : op.guard = none) (ty : TypeId) (x y : Operand) (ho : op.op = .store ty x y)
    (g : Nat) (old cells : Array Value) (t : TypeId) (hx : a.eval x = .pointer (some ⟨g, 0, none⟩)) (hy : a.eval y = .agg cells) (hg : w.heap[g]? = some (.cells old t (0, 0)))
    (hi : (P.info? ty).map (·.size) = some cells.size) (hs : old.size = cells.size) (h1 : cells.all (·.oneCell') = true)
    (h : wpList P ops Q rest (a.put op.dst undef) (w.setRow g cells)) : wpList P ops Q (op :: rest) a w := by
  refine wpList_plain hgd fun K hK => ?_
  unfold Oper.wp execOp
  simp only [ho, hx, hy, Instr.storeAt, Instr.sureAddr, Sem.run_bind, Sem.run_pure, Result.andThen_ok, run_storeVar_row w g t ty old cells hg hi hs h1]
  exact hK _ _ h
/-- 128 noughts, as cells. -/
def zArr : Array Value := (bvs (List.replicate 128 0)).toArray
theorem zArr_sec : Value.agg zArr = secV (List.replicate 128 0) := rfl
theorem zArr_size : zArr.size = 128 := by simp [zArr]
theorem secV_size (l : List UInt8) : (bvs l).toArray.size = l.length := by simp
theorem info_sec : (Try.prog.info? 36).map (fun i => (i.zero, i.size)) = some (some (.agg zArr), 128) := by kernel_rfl
theorem info_arr : (Try.prog.info? 35).map (fun i => (i.zero, i.size)) = some (some (.agg zArr), 128) := by kernel_rfl
theorem zero_sec (w : World) : (zeroValue 36).run Try.prog w = .ok (.agg zArr) w := (zero_of_info info_sec).1 w
theorem zero_arr (w : World) : (zeroValue 35).run Try.prog w = .ok (.agg zArr) w := (zero_of_info info_arr).1 w
theorem size_sec : (Try.prog.info? 36).map (·.size) = some 128 := (zero_of_info info_sec).2
theorem size_arr : (Try.prog.info? 35).map (·.size) = some 128 := (zero_of_info info_arr).2
theorem sec_one (l : List UInt8) : (bvs l).toArray.all (·.oneCell') = true := all_oneCell_toArray (bvs_oneCell l)
theorem zArr_one : zArr.all (·.oneCell') = true := sec_one _
/-- A function's results, of which the first lies in a cell. -/
theorem results_cell1 {P : Program} {fn : Func} {tmps : Array Value} {a : Nat} {t : TypeId} {ad : Addr} {v : Value} {w : World} (hr : fn.results = #[.cell a t]) (hp : tmps.getD a undef = .pointer (some ad)) (hl : (loadVar t ad).run P w = .ok v w) :
    (results fn tmps).run P w = .ok v w := by
  rw [Array.getD_eq_getD_getElem?] at hp
  simp [results, hr, asAddr, hp, hl, Sem.run_bind]
theorem results_cell2 {P : Program} {fn : Func} {tmps : Array Value} {a s : Nat} {t : TypeId} {ad : Addr} {v u : Value} {w : World} (hr : fn.results = #[.cell a t, .tmp s]) (hp : tmps.getD a undef = .pointer (some ad)) (hu : tmps.getD s undef = u) (hl : (loadVar t ad).run P w = .ok v w) :
    (results fn tmps).run P w = .ok (.tuple #[v, u]) w := by
  subst hu
  rw [Array.getD_eq_getD_getElem?] at hp
  simp [results, hr, asAddr, hp, hl, Sem.run_bind]
/-- Cells laid one behind the other into an array. -/
theorem fold_set (off : Nat) : ∀ (X : List Value) (k : Nat) (C : List Value), off + k + X.length ≤ C.length →
    (X.zipIdx k).foldl (fun (cs : Array Value) (p : Value × Nat) => cs.setIfInBounds (off + p.2) p.1) C.toArray = (C.take (off + k) ++ X ++ C.drop (off + k + X.length)).toArray
  | [], k, C, h => by simp
  | x :: X, k, C, h => by
    rw [List.zipIdx_cons, List.foldl_cons]
    simp only [List.setIfInBounds_toArray]
    rw [fold_set off X (k + 1) (C.set (off + k) x) (by simp at h ⊢; omega)]
    congr 1
    simp only [List.length_cons] at h
    have e1 : (C.set (off + k) x).take (off + (k + 1)) = C.take (off + k) ++ [x] := by
      rw [show off + (k + 1) = (off + k) + 1 by omega, List.take_add_one, List.take_set_of_le (by omega)]
      simp [List.getElem?_set]
      omega
    have e2 : (C.set (off + k) x).drop (off + (k + 1) + X.length) = C.drop (off + k + (x :: X).length) := by
      rw [List.drop_set_of_lt (by omega)]
      congr 1
      simp; omega
    rw [e1, e2]
    simp
theorem wpList_build_at {P : Program} {ops : Array Oper} {rest : List Oper} {o : Oper} {a : Act} {w : World} {Q : Exit → Act → World → Prop} (hg : o.guard = none) (t : TypeId) (parts : Array (Nat × Operand)) (ho : o.op = .build t parts)
    (L : List (Nat × Value)) (hL : (parts.map fun (i, x) => (i, a.eval x)).toList = L) (cells : Array Value) (hb : P.built t L = some cells) (h : wpList P ops Q rest (a.put o.dst (.agg cells)) w) : wpList P ops Q (o :: rest) a w := by
  subst hL
  refine wpList_plain hg fun K hK => ?_
  unfold Oper.wp execOp
  simp only [ho, Sem.run_bind, run_build w t _ cells hb, Result.andThen_ok]
  exact hK _ _ h
/-- 'append(s, x...)', s the call's own, x whatever reads: as one step of a region that draws. -/
theorem step_append_rd {P : Program} {ops : Array Oper} {o : Oper} {a : Act} {w : World} {K : Act → World → Prop} {Q : Exit → Act → World → Prop} {E : Prop} (hgd : o.guard = none) (s x : Operand) (t : TypeId)
    (ho : o.op = .call { callee := .builtin .append, args := #[s, x], argTypes := #[t, t] })
    (base : Nat) (e : TypeId) (z : Value) (size bytes : Nat) (ht : P.underlying t = some (.slice e)) (hinfo : (P.info? e).map (fun i => (i.zero, i.size, i.bytes)) = some (some z, size, bytes))
    (hzs : z.cells.size = size) (hsz : 0 < size)
    (v : Value) (n : Nat) (xs : List Value) (hs : a.eval s = v) (hown : w.ownsRow base e size v n xs)
    (u : Value) (m : Nat) (news : List Value) (hx : a.eval x = u) (hu : Rd w u size m news) (h1 : ∀ u ∈ news, u.oneCell' = true)
    (hbytes : (n + m) * bytes ≤ 140737488355328) (hby : 0 < bytes) (hbase : base ≤ w.heap.size)
    (h : ∀ v' w', w'.ownsRow base e size v' (n + m) (xs ++ news) → Below base w w' → w.grownBy w' v.ownBlock → K (a.put o.dst v') w') :
    if Region.wanted o (yielded ops a.tmps) = true then Oper.wp P o a w K Q else E := by
  have hw : Region.wanted o (yielded ops a.tmps) = true := by simp [Region.wanted, hgd]
  rw [if_pos hw]
  obtain ⟨i, hi, hz, hsi, hbi⟩ := info_parts hinfo
  have h63 : n + m ≤ maxLen := by
    have : n + m ≤ (n + m) * bytes := Nat.le_mul_of_pos_right _ hby
    unfold maxLen; omega
  rcases hu.2 with ⟨rfl, rfl⟩ | ⟨ad, c, rfl, hc⟩
  · have hnews : news = [] := List.eq_nil_of_length_eq_zero (by simpa using hu.1)
    subst hnews
    have hrun := run_append_owned_none (P := P) (w := w) base t o.type e i size ht hi v n xs hown
    unfold Oper.wp
    simp [execOp, ho, resolve, invoke, builtin, hs, hx, hrun, Result.andThen]
    exact h v w (by simpa using hown) (Below.refl _ _) (World.grownBy.refl _ _)
  · exact wp_append_own w s x t ho base e i z size bytes ht hi hz hsi hbi hzs hsz v n xs hs hown ad m c news hx hu.1 hc h1 h63 hbytes hbase
      (fun v' w' h2 h3 _ => h v' w' h2 (grown_below hown h3 hbase) h3)
end Go.Proofs.Ytcpfafmkhegckaa
/-
  A sector of bytes: the reference's Full.
-/
namespace Go.Proofs.Ytcpfafmkhegckaa
open Go.RowKit
set_option linter.unusedVariables false
set_option linter.unusedSimpArgs false
theorem bvs_set (l : List UInt8) (i : Nat) (x : UInt8) : (bvs l).set i (bval x) = bvs (l.set i x) := by simp [bvs, List.map_set]
/-- What Full hands back. -/
def full (l : List UInt8) : List UInt8 := (l.take 128) ++ List.replicate (128 - l.length) 0
theorem full_length (l : List UInt8) : (full l).length = 128 := by simp [full]; omega
def fulls (l : List UInt8) (j : Nat) : List UInt8 := (l.take j) ++ List.replicate (128 - j) 0
theorem fulls_zero (l : List UInt8) : fulls l 0 = List.replicate 128 0 := by simp [fulls]
theorem fulls_length (l : List UInt8) (j : Nat) (h : j ≤ l.length) (h2 : j ≤ 128) : (fulls l j).length = 128 := by simp [fulls]; omega
theorem fulls_end (l : List UInt8) (j : Nat) (h : j ≤ l.length) (h2 : j ≤ 128) (h3 : j = l.length ∨ j = 128) : fulls l j = full l := by
  unfold fulls full
  rcases h3 with rfl | rfl
  · rw [List.take_of_length_le (Nat.le_refl _), List.take_of_length_le h2]
  · rw [show 128 - l.length = 0 by omega]
theorem fulls_succ (l : List UInt8) (j : Nat) (h : j < l.length) (h2 : j < 128) : (fulls l j).set j (l.getD j 0) = fulls l (j + 1) := by
  unfold fulls
  have e : (l.take j).length = j := by simp; omega
  rw [List.set_append_right _ _ (by omega), e, Nat.sub_self, show 128 - j = (128 - (j + 1)) + 1 by omega, List.replicate_succ, List.set_cons_zero, List.take_succ_eq_append_getElem h, List.getD_eq_getElem?_getD, List.getElem?_eq_getElem h, List.append_assoc]
  rfl
end Go.Proofs.Ytcpfafmkhegckaa
/-
  Sealed sectors, plain.
-/
namespace Go.Proofs.Ytcpfafmkhegckaa
open Go.RowKit
set_option linter.unusedVariables false
set_option linter.unusedSimpArgs false
/-- The bytes ahead of the sum. -/
def sealH (kind : UInt8) (body : List UInt8) : List UInt8 := [215, 76, kind, UInt8.ofNat body.length] ++ (body ++ List.replicate (120 - body.length) 0)
def sealS (kind : UInt8) (body : List UInt8) : List UInt8 := sealH kind body ++ le 4 (crc (sealH kind body))
theorem sealH_length (k : UInt8) (b : List UInt8) (h : b.length ≤ 120) : (sealH k b).length = 124 := by simp [sealH]; omega
theorem sealS_length (k : UInt8) (b : List UInt8) (h : b.length ≤ 120) : (sealS k b).length = 128 := by simp [sealS, sealH_length k b h]
def mayB (kind : UInt8) (body : List UInt8) : Bool := decide (kind ≠ 0 ∧ body.length ≤ 120)
theorem mayB_iff (k : UInt8) (b : List UInt8) : mayB k b = true ↔ (k ≠ 0 ∧ b.length ≤ 120) := by simp [mayB]
theorem mayB_not (k : UInt8) (b : List UInt8) : mayB k b = false ↔ (k = 0 ∨ 120 < b.length) := by
  unfold mayB; simp only [decide_eq_false_iff_not]
  by_cases h : k = 0
  · simp [h]
  · simp [h]
/-- What Make hands back. -/
def makeS (kind : UInt8) (body : List UInt8) : List UInt8 := if mayB kind body then sealS kind body else List.replicate 128 0
theorem makeS_length (k : UInt8) (b : List UInt8) : (makeS k b).length = 128 := by
  unfold makeS; split
  · rename_i h; exact sealS_length _ _ ((mayB_iff _ _).1 h).2
  · simp
/-- The body that a sector tells. -/
def bodyOf (l : List UInt8) : List UInt8 := (l.drop 4).take (l.getD 3 0).toNat
/-- What Open hands back. -/
def openB (l : List UInt8) : Bool := decide ((l.getD 3 0).toNat ≤ 120) && mayB (l.getD 2 0) (bodyOf l) && decide (sealS (l.getD 2 0) (bodyOf l) = l)
def openK (l : List UInt8) : UInt8 := if openB l then l.getD 2 0 else 0
def openL (l : List UInt8) : List UInt8 := if openB l then bodyOf l else []
def openE (l : List UInt8) : Int := if openB l then 0 else 21
def makeE (kind : UInt8) (body : List UInt8) : Int := if mayB kind body then 0 else 1
theorem seal_at2 (k : UInt8) (b : List UInt8) : (sealS k b).getD 2 0 = k := by simp [sealS, sealH]
theorem seal_at3 (k : UInt8) (b : List UInt8) : (sealS k b).getD 3 0 = UInt8.ofNat b.length := by simp [sealS, sealH]
theorem seal_at0 (k : UInt8) (b : List UInt8) : (sealS k b).getD 0 0 = 215 := by simp [sealS, sealH]
theorem bodyOf_seal (k : UInt8) (b : List UInt8) (h : b.length ≤ 120) : bodyOf (sealS k b) = b := by
  unfold bodyOf
  rw [seal_at3, show (UInt8.ofNat b.length).toNat = b.length by simp; omega]
  simp only [sealS, sealH, List.cons_append, List.nil_append, List.drop_succ_cons, List.drop_zero, List.append_assoc]
  rw [List.take_append_of_le_length (Nat.le_refl _), List.take_of_length_le (Nat.le_refl _)]
theorem open_seal (k : UInt8) (b : List UInt8) (h : mayB k b = true) : openB (sealS k b) = true := by
  have h' := (mayB_iff _ _).1 h
  unfold openB
  rw [bodyOf_seal k b h'.2, seal_at2, seal_at3, h, show (UInt8.ofNat b.length).toNat = b.length by simp; omega]
  simp [h'.2]
theorem open_body_len (l : List UInt8) (h : openB l = true) (hl : l.length = 128) : mayB (l.getD 2 0) (bodyOf l) = true ∧ sealS (l.getD 2 0) (bodyOf l) = l := by
  unfold openB at h
  simp only [Bool.and_eq_true, decide_eq_true_eq] at h
  exact ⟨h.1.2, h.2⟩
theorem le4_inj (a b : Nat) (ha : a < 4294967296) (hb : b < 4294967296) (h : le 4 a = le 4 b) : a = b := by
  rw [← leNat_le_of 4 a ha, ← leNat_le_of 4 b hb, h]
/-- Unlike kinds or bodies: unlike sectors. -/
theorem seal_inj (k k' : UInt8) (b b' : List UInt8) (h : b.length ≤ 120) (h' : b'.length ≤ 120) : sealS k b = sealS k' b' ↔ (k = k' ∧ b = b') := by
  constructor
  · intro e
    refine ⟨?_, ?_⟩
    · rw [← seal_at2 k b, e, seal_at2]
    · rw [← bodyOf_seal k b h, e, bodyOf_seal k' b' h']
  · rintro ⟨rfl, rfl⟩; rfl
/-- One byte turned: no sector. -/
theorem open_turned (k : UInt8) (b : List UInt8) (hm : mayB k b = true) (i : Nat) (hi : i < 128) (x : UInt8) (hx : (sealS k b).getD i 0 ≠ x) : openB ((sealS k b).set i x) = false := by
  obtain ⟨hk, hb⟩ := (mayB_iff _ _).1 hm
  have hH := sealH_length k b hb
  have hS := sealS_length k b hb
  cases ho : openB ((sealS k b).set i x) with
  | false => rfl
  | true =>
    exfalso
    obtain ⟨h1, h2⟩ := open_body_len _ ho (by simp [hS])
    obtain ⟨k', hk'⟩ : ∃ k', k' = ((sealS k b).set i x).getD 2 0 := ⟨_, rfl⟩
    obtain ⟨b', hb'⟩ : ∃ b', b' = bodyOf ((sealS k b).set i x) := ⟨_, rfl⟩
    rw [← hk', ← hb'] at h1 h2
    have hl' := ((mayB_iff _ _).1 h1).2
    have hH' := sealH_length k' b' hl'
    by_cases hlt : i < 124
    · -- ahead of the sum
      have e1 : (sealS k b).set i x = (sealH k b).set i x ++ le 4 (crc (sealH k b)) := by
        unfold sealS; rw [List.set_append_left _ _ (by omega)]
      rw [e1] at h2
      unfold sealS at h2
      obtain ⟨e2, e3⟩ := List.append_inj h2 (by simp [hH, hH'])
      have e4 := le4_inj _ _ (crc_lt _) (crc_lt _) e3
      rw [e2] at e4
      have e5 := crc_set (sealH k b) i x (by omega) e4
      apply hx
      rw [← e5]
      unfold sealS
      simp only [List.getD_eq_getElem?_getD]
      rw [List.getElem?_append_left (by omega)]
    · have e1 : (sealS k b).set i x = sealH k b ++ (le 4 (crc (sealH k b))).set (i - 124) x := by
        unfold sealS; rw [List.set_append_right _ _ (by omega), hH]
      rw [e1] at h2
      unfold sealS at h2
      obtain ⟨e2, e3⟩ := List.append_inj h2 (by simp [hH, hH'])
      rw [e2] at e3
      apply hx
      have e6 : (le 4 (crc (sealH k b))).getD (i - 124) 0 = x := by
        have := congrArg (fun q => q.getD (i - 124) 0) e3
        refine Eq.trans this ?_
        simp only [List.getD_eq_getElem?_getD]
        rw [List.getElem?_set_self (by simp; omega)]; rfl
      rw [← e6]
      unfold sealS
      simp only [List.getD_eq_getElem?_getD]
      rw [List.getElem?_append_right (by omega), hH]
end Go.Proofs.Ytcpfafmkhegckaa
/-
  The contracts of the reference's plain functions on bytes: Low, Num, Get, Copy, Equal, Put.
-/
namespace Go.Proofs.Ytcpfafmkhegckaa
open Go.RowKit
set_option linter.unusedVariables false

theorem u64_nat (n : Nat) (h : n < 2 ^ 64) : IntKind.u64.wrap (n : Int) = (n : Int) := by simp [IntKind.wrap, IntKind.signed, IntKind.bits]; omega
theorem u8_of_rem (q : Nat) : ((q : Int)) % 256 = ((UInt8.ofNat (q % 256)).toNat : Int) := by simp
/-! ### Put -/
/-- What a function comes to that hands back bytes of its own and an error's number. -/
def RetB2 (E : TypeId) (w : World) (l : List UInt8) (n : Int) (e : Ending) (w' : World) : Prop := ∃ v, e = .returned (.tuple #[v, .int .i64 n]) ∧ w'.ownsRow w.heap.size E 1 v l.length (bvs l) ∧ Below w.heap.size w w'
theorem putOk_has (n : Nat) (at_ width : Int) (x : Nat) (hf : fitsB n at_ width = true) : hasB width x = putOk n at_ width x := by
  obtain ⟨h1, h2, _, _⟩ := (fitsB_iff _ _ _).1 hf
  unfold hasB putOk
  rw [hf, decide_eq_true (show 1 ≤ width ∧ width ≤ 8 from ⟨h1, h2⟩)]
end Go.Proofs.Ytcpfafmkhegckaa
/-
  Sealed sectors: the walks of the reference's Make and Open.
-/
namespace Go.Proofs.Ytcpfafmkhegckaa
open Go.RowKit
set_option linter.unusedVariables false
set_option linter.unusedSimpArgs false
theorem full_of_le (l : List UInt8) (h : l.length = 128) : full l = l := by
  unfold full; rw [List.take_of_length_le (by omega), h]; simp
def headL (kind : UInt8) (b : List UInt8) : List UInt8 := [215, 76, kind, UInt8.ofNat b.length] ++ b
theorem headL_length (k : UInt8) (b : List UInt8) : (headL k b).length = b.length + 4 := by simp [headL]
theorem headL_pad (k : UInt8) (b : List UInt8) : headL k b ++ List.replicate (120 - b.length) 0 = sealH k b := by simp [headL, sealH]
theorem own_lit (w : World) (e : Nat) (cs : List Value) (n : Nat) (hn : cs.length = n) (hm : n ≤ maxLen) : (w.alloc (.cells cs.toArray e (0, 0))).ownsRow w.heap.size e 1 (.slice (some ⟨w.heap.size, 0, none⟩) n n) n cs :=
  ⟨by simp [hn], .inr ⟨w.heap.size, n, cs.toArray, rfl, Nat.le_refl _, heap_alloc_last w _, Nat.le_refl _, hm, by simp [hn], by simp [← hn]⟩⟩
end Go.Proofs.Ytcpfafmkhegckaa
/-
  Sealed sectors: the walk of the reference's Open.
-/
namespace Go.Proofs.Ytcpfafmkhegckaa
open Go.RowKit
set_option linter.unusedVariables false
set_option linter.unusedSimpArgs false
theorem equal_array (w : World) (xs ys : List UInt8) (hx : xs.length = 128) (hy : ys.length = 128) : (Op.equalIn 10000 35 (secV xs) (secV ys)).run Try.prog w = .ok (decide (xs = ys)) w :=
  (have h : ∃ i, Try.prog.info? 5 = some i := by
    cases hi : Try.prog.info? 5 with
    | none => have := infoU8; rw [hi] at this; cases this
    | some i => exact ⟨i, rfl⟩
   let ⟨i, hi⟩ := h
   equal_sec Try.underlying35 hi (by kernel_rfl) (by kernel_rfl) Try.underlying5 w xs ys hx hy)
/-- What the reference's Open comes to. -/
def RopTo (w : World) (k : UInt8) (l : List UInt8) (b : Bool) (e : Ending) (w' : World) : Prop := ∃ v, e = .returned (.tuple #[.int .u8 (k.toNat : Int), v, .bool b]) ∧ w'.ownsRow w.heap.size 5 1 v l.length (bvs l) ∧ Below w.heap.size w w'
theorem own_none (w : World) (base e : Nat) : w.ownsRow base e 1 (.slice none 0 0) 0 (bvs []) := ⟨by simp [bvs], .inl ⟨rfl, rfl⟩⟩
theorem ropTo_no {l : List UInt8} {w w' : World} {e : Ending} (h : openB l = false) (he : e = .returned (.tuple #[.int .u8 0, .slice none 0 0, .bool false])) (hb : Below w.heap.size w w') :
    RopTo w (openK l) (openL l) (openB l) e w' := by
  unfold openK openL
  rw [h]
  exact ⟨_, he, own_none _ _ _, hb⟩
theorem ropTo_yes {l : List UInt8} {w w' : World} {e : Ending} {v : Value} {k : UInt8} {b : List UInt8} {n : Nat} (h : openB l = true) (hk : k = l.getD 2 0) (hb' : b = bodyOf l) (he : e = .returned (.tuple #[.int .u8 (k.toNat : Int), v, .bool true])) (ho : w'.ownsRow w.heap.size 5 1 v n (bvs b)) (hb : Below w.heap.size w w') :
    RopTo w (openK l) (openL l) (openB l) e w' := by
  unfold openK openL
  rw [h, if_pos rfl, if_pos rfl, ← hk, ← hb']
  have hn := (own_byt ho).2
  subst hn
  exact ⟨_, he, ho, hb⟩
theorem body_step (l : List UInt8) (j : Nat) (h : 4 + j < l.length) : (l.drop 4).take (j + 1) = (l.drop 4).take j ++ [l.getD (4 + j) 0] := by
  have hj : j < (l.drop 4).length := by simp; omega
  rw [List.take_succ_eq_append_getElem hj]
  simp only [List.getElem_drop, List.getD_eq_getElem?_getD]
  rw [List.getElem?_eq_getElem h]; rfl
end Go.Proofs.Ytcpfafmkhegckaa
