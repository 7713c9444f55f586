/-
  Plain words on bytes, little-endian numbers, readable slices and written rows, that all proofs of this set share. No program is in sight.
-/
import Derived.WalkKit
import Derived.WalkSpells
import Derived.WalkLawsBesides
import Derived.Lib.Hide
import Derived.Laws.CopyOwn
import Derived.Deep.LoopGhost
import Derived.Deep.Draws
import Derived.OwnWalk
import Derived.Laws.MakeOwn
import Derived.Laws.OwnMore
namespace Go.Proofs.Ytiehfaiadhhndaa
open Go.RowKit

/-! ### Bytes -/
/-- A byte as a value. -/
def bval (x : UInt8) : Value := .int .u8 (x.toNat : Int)
def bvs (l : List UInt8) : List Value := l.map bval
@[simp] theorem bvs_length (l : List UInt8) : (bvs l).length = l.length := by simp [bvs]
theorem bvs_append (a b : List UInt8) : bvs (a ++ b) = bvs a ++ bvs b := by simp [bvs]
theorem bvs_get (l : List UInt8) (i : Nat) (h : i < l.length) : (bvs l)[i]? = some (.int .u8 ((l.getD i 0).toNat : Int)) := by
  simp [bvs, List.getElem?_map, List.getElem?_eq_getElem h, bval]
theorem bvs_oneCell (l : List UInt8) : ∀ u ∈ bvs l, u.oneCell' = true := by
  intro u hu
  obtain ⟨x, _, rfl⟩ := List.mem_map.1 hu
  rfl

/-! ### Numbers in bytes, the lowest byte first -/
def leNat : List UInt8 → Nat
  | [] => 0
  | x :: r => x.toNat + 256 * leNat r
def le : Nat → Nat → List UInt8
  | 0, _ => []
  | k + 1, n => UInt8.ofNat (n % 256) :: le k (n / 256)
@[simp] theorem le_length (k n : Nat) : (le k n).length = k := by
  induction k generalizing n with
  | zero => rfl
  | succ k ih => simp [le, ih]
theorem leNat_lt (l : List UInt8) : leNat l < 256 ^ l.length := by
  induction l with
  | nil => simp [leNat]
  | cons x r ih =>
    have := x.toNat_lt
    simp only [leNat, List.length_cons, Nat.pow_succ]
    omega
theorem leNat_append (a b : List UInt8) : leNat (a ++ b) = leNat a + 256 ^ a.length * leNat b := by
  induction a with
  | nil => simp [leNat]
  | cons x r ih =>
    simp only [List.cons_append, leNat, ih, List.length_cons, Nat.pow_succ, Nat.mul_add, Nat.add_assoc]
    congr 2
    rw [Nat.mul_comm (256 ^ r.length) 256, Nat.mul_assoc]
theorem le_snoc (k n : Nat) : le (k + 1) n = le k n ++ [UInt8.ofNat (n / 256 ^ k % 256)] := by
  induction k generalizing n with
  | zero => simp [le]
  | succ k ih =>
    rw [le, ih, le, List.cons_append]
    congr 3
    rw [Nat.div_div_eq_div_mul, Nat.pow_succ, Nat.mul_comm]
theorem leNat_le (k n : Nat) : leNat (le k n) = n % 256 ^ k := by
  induction k generalizing n with
  | zero => simp [le, leNat, Nat.mod_one]
  | succ k ih =>
    rw [le, leNat, ih]
    have h1 : (UInt8.ofNat (n % 256)).toNat = n % 256 := by simp
    rw [h1, Nat.pow_succ, Nat.mul_comm (256 ^ k) 256, Nat.mod_mul]
theorem leNat_le_of (k n : Nat) (h : n < 256 ^ k) : leNat (le k n) = n := by rw [leNat_le, Nat.mod_eq_of_lt h]
theorem le_leNat (l : List UInt8) : le l.length (leNat l) = l := by
  induction l with
  | nil => rfl
  | cons x r ih =>
    have := x.toNat_lt
    have h1 : leNat (x :: r) % 256 = x.toNat := by simp only [leNat]; omega
    have h2 : leNat (x :: r) / 256 = leNat r := by simp only [leNat]; omega
    rw [List.length_cons, le, h1, h2, ih]
    simp
theorem le_mod (k n : Nat) : le k (n % 256 ^ k) = le k n := by
  induction k generalizing n with
  | zero => rfl
  | succ k ih =>
    rw [le, le, ← ih (n / 256)]
    have e : n % 256 ^ (k + 1) % 256 = n % 256 := by
      rw [Nat.pow_succ]; exact Nat.mod_mul_left_mod _ _ _
    have e2 : n % 256 ^ (k + 1) / 256 % 256 ^ k = n / 256 % 256 ^ k := by
      rw [Nat.pow_succ, Nat.mul_comm, Nat.mod_mul_right_div_self, Nat.mod_mod]
    rw [e, ← e2, ih]
/-- The number of the bytes from one on. -/
def part (l : List UInt8) (a k : Nat) : Nat := leNat ((l.drop a).take k)
theorem part_lt (l : List UInt8) (a k : Nat) : part l a k < 256 ^ k := by
  unfold part
  refine Nat.lt_of_lt_of_le (leNat_lt _) (Nat.pow_le_pow_right (by decide) ?_)
  simp; omega
theorem part_zero (l : List UInt8) (a : Nat) : part l a 0 = 0 := by simp [part, leNat]
theorem part_succ (l : List UInt8) (a k : Nat) (h : a + k < l.length) : part l a (k + 1) = part l a k + 256 ^ k * (l.getD (a + k) 0).toNat := by
  unfold part
  have h1 : k < (l.drop a).length := by simp; omega
  rw [List.take_succ_eq_append_getElem h1, leNat_append]
  have h2 : ((l.drop a).take k).length = k := by simp; omega
  rw [h2]
  have h3 : (l.drop a)[k] = l.getD (a + k) 0 := by simp [List.getElem?_eq_getElem h]
  rw [h3]; simp [leNat]

theorem i64_w (n : Int) : IntKind.i64.wrap n = wrap64 n := by unfold wrap64; exact IntKind.wrap_i64 n

/-! ### Bits: or of numbers that don't meet -/
theorem or_add (k x y : Nat) (hx : x < 2 ^ k) : x ||| (y * 2 ^ k) = x + 2 ^ k * y := by
  rw [Nat.mul_comm, Nat.or_comm]
  have := Nat.two_pow_add_eq_or_of_lt hx y
  omega

/-! ### A row whose cells are known, written -/
theorem cell_row {w : World} {g : Nat} {cur : Array Value} {t : TypeId} {f : Nat × Nat} (h : w.heap[g]? = some (.cells cur t f)) (i : Nat) : w.cell? ⟨g, i, none⟩ = cur[i]? := by
  simp [World.cell?, h]
theorem free_row {w : World} {g : Nat} {cur : Array Value} {t : TypeId} (h : w.heap[g]? = some (.cells cur t (0, 0))) (i : Nat) : w.frozen? ⟨g, i, none⟩ = false := by
  simp [World.frozen?, h]
theorem setRow_setCell {w : World} {g : Nat} {cur cs : Array Value} {t : TypeId} {f : Nat × Nat} (h : w.heap[g]? = some (.cells cur t f)) (i : Nat) (v : Value) :
    (w.setRow g cs).setCell ⟨g, i, none⟩ v = w.setRow g (cs.setIfInBounds i v) := by
  obtain ⟨hp, tape, dr, os, out⟩ := w
  simp only [World.setRow, World.setCell, World.mk.injEq, and_true]
  apply Array.ext_getElem?
  intro k
  simp only [Array.getElem?_modify]
  by_cases hk : g = k
  · subst hk
    have h' : hp[g]? = some (.cells cur t f) := h
    simp [h']
  · simp [hk]
theorem setCell_row {w : World} {g : Nat} {cur : Array Value} {t : TypeId} {f : Nat × Nat} (h : w.heap[g]? = some (.cells cur t f)) (i : Nat) (v : Value) :
    w.setCell ⟨g, i, none⟩ v = w.setRow g (cur.setIfInBounds i v) := by
  have := setRow_setCell (cs := cur) h i v
  rwa [setRow_self w g cur t f h] at this

theorem splice_nil {α : Type} (L : List α) (o : Nat) : splice L o [] = L := by simp [splice]
theorem splice_snoc {α : Type} (L : List α) (o : Nat) (l : List α) (v : α) (h : o + l.length < L.length) : (splice L o l).set (o + l.length) v = splice L o (l ++ [v]) := by
  have h1 : (L.take o).length = o := by simp; omega
  unfold splice
  apply List.ext_getElem?
  intro i
  rw [List.getElem?_set]
  simp only [List.length_append, h1, List.length_drop, List.length_cons, List.length_nil, Nat.zero_add, List.getElem?_append, List.append_assoc]
  by_cases hi : o + l.length = i
  · subst hi
    rw [if_pos rfl, if_pos (by omega), if_neg (by omega), if_neg (by omega), if_pos (by omega)]
    have e : o + l.length - o - l.length = 0 := by omega
    rw [e]; rfl
  · rw [if_neg hi]
    by_cases h2 : i < o
    · rw [if_pos h2, if_pos h2]
    · rw [if_neg h2, if_neg h2]
      by_cases h3 : i - o < l.length
      · rw [if_pos h3, if_pos h3]
      · rw [if_neg h3, if_neg h3, if_neg (by omega), List.getElem?_drop, List.getElem?_drop]
        congr 1; omega
theorem splice_get_in {α : Type} (L : List α) (o : Nat) (l : List α) (h : o + l.length ≤ L.length) (i : Nat) (hi : i < l.length) : (splice L o l)[o + i]? = l[i]? := by
  unfold splice
  have h1 : (L.take o).length = o := by simp; omega
  rw [List.getElem?_append_right (by omega), h1, Nat.add_sub_cancel_left, List.getElem?_append_left hi]
theorem splice_get_out {α : Type} (L : List α) (o : Nat) (l : List α) (h : o + l.length ≤ L.length) (i : Nat) (hi : i < o ∨ o + l.length ≤ i) : (splice L o l)[i]? = L[i]? := by
  unfold splice
  have h1 : (L.take o).length = o := by simp; omega
  rcases hi with hi | hi
  · rw [List.getElem?_append_left (by omega), List.getElem?_take_of_lt hi]
  · rw [List.getElem?_append_right (by omega), h1, List.getElem?_append_right (by omega), List.getElem?_drop]
    congr 1; omega

/-! ### A slice of bytes that can be read -/
/-- The bytes from a place of a block on. -/
def RdB (w : World) (b o : Nat) (l : List UInt8) : Prop := ∀ i, i < l.length → w.cell? ⟨b, o + i, none⟩ = some (.int .u8 ((l.getD i 0).toNat : Int))
theorem RdB.lt {w : World} {b o : Nat} {l : List UInt8} (h : RdB w b o l) (hl : 0 < l.length) : b < w.heap.size := World.block_lt_of_cell? w _ (h 0 hl)
theorem RdB.below {w w' : World} {b o : Nat} {l : List UInt8} (h : RdB w b o l) (hb : Below w.heap.size w w') : RdB w' b o l := fun i hi => by
  have := h i hi
  rw [hb.cell (World.block_lt_of_cell? w _ this)]; exact this
theorem RdB.sub {w : World} {b o : Nat} {l : List UInt8} (h : RdB w b o l) (i n : Nat) (hn : i + n ≤ l.length) : RdB w b (o + i) ((l.drop i).take n) := fun j hj => by
  have hj' : j < n := by simp at hj; omega
  have := h (i + j) (by omega)
  rw [Nat.add_assoc, this]
  simp [hj']
theorem RdB.row {w : World} {g o : Nat} {cur : Array Value} {t : TypeId} {f : Nat × Nat} (h : w.heap[g]? = some (.cells cur t f)) {l : List UInt8} (hl : ∀ i, i < l.length → cur[o + i]? = some (.int .u8 ((l.getD i 0).toNat : Int))) : RdB w g o l := fun i hi => by
  rw [cell_row h, hl i hi]
/-- A value that is a slice of these bytes. -/
def Byt (w : World) (v : Value) (l : List UInt8) : Prop :=
  (l = [] ∧ ∃ A c, v = .slice A 0 c ∧ c ≤ maxLen ∧ (A = none → c = 0)) ∨ ∃ b o c, v = .slice (some ⟨b, o, none⟩) l.length c ∧ l.length ≤ c ∧ c ≤ maxLen ∧ RdB w b o l
theorem Byt.below {w w' : World} {v : Value} {l : List UInt8} (h : Byt w v l) (hb : Below w.heap.size w w') : Byt w' v l := by
  rcases h with h | ⟨b, o, c, h1, h2, h3, h4⟩
  · exact .inl h
  · exact .inr ⟨b, o, c, h1, h2, h3, h4.below hb⟩

theorem byt_take {w : World} {b o c : Nat} {l : List UInt8} (hr : RdB w b o l) (hc : l.length ≤ c) (hm : c ≤ maxLen) (i : Nat) (hi : i ≤ l.length) : Byt w (.slice (some ⟨b, o, none⟩) i c) (l.take i) :=
  .inr ⟨b, o, c, by simp; omega, by simp; omega, hm, fun j hj => by
    have hj' : j < i := by simp at hj; omega
    rw [hr j (by omega)]; simp [hj']⟩
theorem byt_drop {w : World} {b o c : Nat} {l : List UInt8} (hr : RdB w b o l) (hc : l.length ≤ c) (hm : c ≤ maxLen) (i : Nat) (hi : i ≤ l.length) :
    Byt w (.slice (if c = i then some ⟨b, o, none⟩ else some ⟨b, o + i, none⟩) (l.length - i) (c - i)) (l.drop i) := by
  by_cases h : c = i
  · rw [if_pos h]
    exact .inr ⟨b, o, c - i, by simp, by simp; omega, by omega, fun j hj => by simp at hj; omega⟩
  · rw [if_neg h]
    refine .inr ⟨b, o + i, c - i, by simp, by simp; omega, by omega, fun j hj => ?_⟩
    have hj' : i + j < l.length := by simp at hj; omega
    rw [Nat.add_assoc, hr (i + j) hj']; simp

theorem two_of_length {α : Type} {l : List α} (h : l.length = 2) : ∃ a b, l = [a, b] := by
  match l, h with
  | [a, b], _ => exact ⟨a, b, rfl⟩
theorem three_of_length {α : Type} {l : List α} (h : l.length = 3) : ∃ a b c, l = [a, b, c] := by
  match l, h with
  | [a, b, c], _ => exact ⟨a, b, c, rfl⟩

theorem bnext {w a b : World} (h : Below w.heap.size w a) (k : Below a.heap.size a b) : Below w.heap.size w b := h.trans (k.mono h.size)
theorem bdrewN {B : Nat} {w W : World} (h : Below B w W) (n : Nat) : Below B w (W.drewN n) := ⟨h.os, h.tape, h.output, h.size, h.block⟩
theorem bcell {W w1 : World} (hb : Below W.heap.size W w1) : (∀ b o, b < W.heap.size → w1.cell? ⟨b, o, none⟩ = W.cell? ⟨b, o, none⟩) ∧ (∀ b o, b < W.heap.size → w1.frozen? ⟨b, o, none⟩ = W.frozen? ⟨b, o, none⟩) :=
  ⟨fun b o h => hb.cell (p := ⟨b, o, none⟩) h, fun b o h => hb.frozen (p := ⟨b, o, none⟩) h⟩
/-- A function that computes a number, or a truth. -/
def RetN (w : World) (n : Int) (e : Ending) (w' : World) : Prop := e = .returned (.int .i64 n) ∧ Below w.heap.size w w'
def RetT (w : World) (b : Bool) (e : Ending) (w' : World) : Prop := e = .returned (.bool b) ∧ Below w.heap.size w w'

/-! ### max and min, kept whole in a walk -/
def mxI (a b : Int) : Int := if a < b then b else a
def mnI (a b : Int) : Int := if b < a then b else a
theorem maxI_two (ats : Array TypeId) (ty : TypeId) (k k' : IntKind) (x y : Int) : Builtin.max_ ats ty #[.int k x, .int k' y] = pure (.int k (mxI x y)) := by
  simp only [Builtin.max_, List.foldlM_cons, List.foldlM_nil, Builtin.max2, gt_iff_lt, mxI]; rfl
theorem minI_two (ats : Array TypeId) (ty : TypeId) (k k' : IntKind) (x y : Int) : Builtin.min_ ats ty #[.int k x, .int k' y] = pure (.int k (mnI x y)) := by
  simp only [Builtin.min_, List.foldlM_cons, List.foldlM_nil, Builtin.min2, mnI]; rfl

/-! ### Rows of the call's own; sources of an append -/
/-- A value reads as n elements of a size, these cells. -/
def Rd (w : World) (v : Value) (size n : Nat) (cs : List Value) : Prop :=
  cs.length = n * size ∧ ((v = .slice none 0 0 ∧ n = 0) ∨ ∃ ad c, v = .slice (some ad) n c ∧ ∀ j u, cs[j]? = some u → w.cell? (ad.add j) = some u)
theorem add_at (b o j : Nat) : (⟨b, o, none⟩ : Addr).add j = ⟨b, o + j, none⟩ := by unfold Addr.add; split <;> simp_all
theorem Byt.rd {w : World} {v : Value} {l : List UInt8} (h : Byt w v l) : Rd w v 1 l.length (bvs l) := by
  refine ⟨by simp, ?_⟩
  rcases h with ⟨rfl, A, c, h1, h2, h3⟩ | ⟨b, o, c, h1, h2, h3, h4⟩
  · cases A with
    | none => exact .inl ⟨by rw [h1, h3 rfl], rfl⟩
    | some ad => exact .inr ⟨ad, c, h1, fun j u hu => by simp [bvs] at hu⟩
  · refine .inr ⟨_, c, h1, fun j u hu => ?_⟩
    have hj : j < l.length := by have := (List.getElem?_eq_some_iff.1 hu).1; simpa using this
    rw [add_at, h4 j hj, ← bvs_get l j hj]; exact hu
theorem Rd.below {w w' : World} {v : Value} {size n : Nat} {cs : List Value} (h : Rd w v size n cs) (hb : Below w.heap.size w w') : Rd w' v size n cs := by
  refine ⟨h.1, ?_⟩
  rcases h.2 with h1 | ⟨ad, c, h1, h2⟩
  · exact .inl h1
  · exact .inr ⟨ad, c, h1, fun j u hu => by have := h2 j u hu; rw [hb.cell (World.block_lt_of_cell? w _ this)]; exact this⟩
theorem own_rd {w : World} {base e size n : Nat} {v : Value} {xs : List Value} (h : w.ownsRow base e size v n xs) : Rd w v size n xs := by
  refine ⟨h.1, ?_⟩
  rcases h.2 with h1 | ⟨g, cap, cur, h1, h2, h3, h4, h5, h6, h7⟩
  · exact .inl h1
  · refine .inr ⟨_, cap, h1, fun j u hu => ?_⟩
    subst h1
    have hj : j < n * size := by have := (List.getElem?_eq_some_iff.1 hu).1; rw [h.1] at this; exact this
    rw [add_at, Nat.zero_add, cell_row h3]
    rw [← h7, List.getElem?_take_of_lt hj] at hu
    simpa using hu
theorem own_byt {w : World} {base e : Nat} {v : Value} {n : Nat} {l : List UInt8} (h : w.ownsRow base e 1 v n (bvs l)) : Byt w v l ∧ n = l.length := by
  have hn : n = l.length := by have := h.1; simp at this; omega
  subst hn
  refine ⟨?_, rfl⟩
  rcases h.2 with ⟨h1, h2⟩ | ⟨g, cap, cur, h1, h2, h3, h4, h5, h6, h7⟩
  · exact .inl ⟨List.eq_nil_of_length_eq_zero h2, none, 0, h1, by unfold maxLen; omega, fun _ => rfl⟩
  · refine .inr ⟨g, 0, cap, h1, h4, h5, fun i hi => ?_⟩
    rw [Nat.zero_add, cell_row h3, ← bvs_get l i hi, ← h7, List.getElem?_take_of_lt (by omega)]
    simp
theorem own_block_lt {w : World} {base e size n : Nat} {v : Value} {xs : List Value} (h : w.ownsRow base e size v n xs) (k : Nat) (hk : v.ownBlock = some k) : k < w.heap.size := (h.lt k hk).2
theorem own_mono {w : World} {base base' e size n : Nat} {v : Value} {xs : List Value} (h : w.ownsRow base e size v n xs) (hb : base' ≤ base) : w.ownsRow base' e size v n xs := by
  refine ⟨h.1, ?_⟩
  rcases h.2 with h1 | ⟨g, cap, cur, h1, h2, r⟩
  · exact .inl h1
  · exact .inr ⟨g, cap, cur, h1, by omega, r⟩
theorem own_below {w w' : World} {base e size n : Nat} {v : Value} {xs : List Value} (h : w.ownsRow base e size v n xs) (hb : Below w.heap.size w w') : w'.ownsRow base e size v n xs := by
  refine ⟨h.1, ?_⟩
  rcases h.2 with h1 | ⟨g, cap, cur, h1, h2, h3, r⟩
  · exact .inl h1
  · exact .inr ⟨g, cap, cur, h1, h2, (hb.block g (Array.getElem?_eq_some_iff.1 h3).1).trans h3, r⟩
theorem grown_below {base : Nat} {w w' : World} {v : Value} {e size n : Nat} {xs : List Value} (h : w.ownsRow base e size v n xs) (hg : w.grownBy w' v.ownBlock) (hb : base ≤ w.heap.size) : Below base w w' :=
  ⟨hg.os, hg.tape, hg.output, hg.size, fun k hk => hg.block k (by omega) (fun e => by have := (h.lt k e.symm).1; omega)⟩

/-- 'append(s, x...)', s the call's own, x whatever reads. -/
theorem wpList_append_rd {P : Program} (w : World) {ops : Array Oper} {rest : List Oper} {o : Oper} {a : Act} {Q : Exit → Act → World → Prop} (hgd : o.guard = none) (s x : Operand) (t : TypeId)
    (ho : o.op = .call { callee := .builtin .append, args := #[s, x], argTypes := #[t, t] })
    (base : Nat) (e : TypeId) (z : Value) (size bytes : Nat) (ht : P.underlying t = some (.slice e)) (hinfo : (P.info? e).map (fun i => (i.zero, i.size, i.bytes)) = some (some z, size, bytes))
    (hzs : z.cells.size = size) (hsz : 0 < size)
    (v : Value) (n : Nat) (xs : List Value) (hs : a.eval s = v) (hown : w.ownsRow base e size v n xs)
    (u : Value) (m : Nat) (news : List Value) (hx : a.eval x = u) (hu : Rd w u size m news) (h1 : ∀ u ∈ news, u.oneCell' = true)
    (hbytes : (n + m) * bytes ≤ 140737488355328) (hby : 0 < bytes) (hbase : base ≤ w.heap.size)
    (h : ∀ v' w', w'.ownsRow base e size v' (n + m) (xs ++ news) → Below base w w' → w.grownBy w' v.ownBlock → wpList P ops Q rest (a.put o.dst v') w') : wpList P ops Q (o :: rest) a w := by
  obtain ⟨i, hi, hz, hsi, hbi⟩ := info_parts hinfo
  have h63 : n + m ≤ maxLen := by
    have : n + m ≤ (n + m) * bytes := Nat.le_mul_of_pos_right _ hby
    unfold maxLen; omega
  rcases hu.2 with ⟨rfl, rfl⟩ | ⟨ad, c, rfl, hc⟩
  · have hnews : news = [] := List.eq_nil_of_length_eq_zero (by simpa using hu.1)
    subst hnews
    refine wpList_plain hgd fun K hK' => ?_
    have hrun := run_append_owned_none (P := P) (w := w) base t o.type e i size ht hi v n xs hown
    unfold Oper.wp
    simp [execOp, ho, resolve, invoke, builtin, hs, hx, hrun, Result.andThen]
    exact hK' _ _ (by simpa using h v w (by simpa using hown) (Below.refl _ _) (World.grownBy.refl _ _))
  · exact wpList_append_own w hgd s x t ho base e i z size bytes ht hi hz hsi hbi hzs hsz v n xs hs hown ad m c news hx hu.1 hc h1 h63 hbytes hbase
      (fun v' w' h2 h3 _ => h v' w' h2 (grown_below hown h3 hbase) h3)

/-- The row of one element that a literal lays. -/
theorem rd_one {w : World} {g : Nat} {t : TypeId} {v : Value} (h : w.heap[g]? = some (.cells #[v] t (0, 0))) (c : Nat) : Rd w (.slice (some ⟨g, 0, none⟩) 1 c) 1 1 [v] :=
  ⟨rfl, .inr ⟨_, c, rfl, fun j u hu => by
    have hj : j < 1 := by have := (List.getElem?_eq_some_iff.1 hu).1; simpa using this
    obtain rfl : j = 0 := by omega
    rw [add_at, cell_row h]; simpa using hu⟩⟩
/-- 'make([]T, n)' -/
theorem wpList_make_rd {P : Program} (w : World) {ops : Array Oper} {rest : List Oper} {o : Oper} {a : Act} {Q : Exit → Act → World → Prop} (hg : o.guard = none) (l c : Operand) (t : TypeId) (hop : o.op = Op.makeSlice t l c)
    (base : Nat) (e : TypeId) (z : Value) (size bytes : Nat) (h1 : P.underlying t = some (.slice e)) (hinfo : (P.info? e).map (fun i => (i.zero, i.size, i.bytes)) = some (some z, size, bytes))
    (L C : Int) (n : Nat) (hl : a.eval l = .int .i64 L) (hc : a.eval c = .int .i64 C) (hL : L = (n : Int)) (hC : C = (n : Int)) (b2 : bytes * n ≤ 281474976710656) (b3 : n ≤ maxLen) (b4 : base ≤ w.heap.size)
    (hK : ∀ w', w'.ownsRow base e size (.slice (some ⟨w.heap.size, 0, none⟩) n n) n (madeCells z.cells (n * size)).toList → Below w.heap.size w w' → wpList P ops Q rest (a.put o.dst (.slice (some ⟨w.heap.size, 0, none⟩) n n)) w') :
    wpList P ops Q (o :: rest) a w := by
  obtain ⟨i, hi, hz, hsi, hbi⟩ := info_parts hinfo
  exact wpList_make_full w hg l c t hop base e i z size h1 hi hz hsi .i64 .i64 L C n hl hc hL hC (by rw [hbi]; exact b2) b3 b4
    (fun w' h2 h3 => hK w' h2 ⟨h3.os, h3.tape, h3.output, h3.size, fun k hk => h3.block k hk (by simp)⟩)
theorem made_bytes (n : Nat) : (madeCells (Value.int .u8 0).cells (n * 1)).toList = bvs (List.replicate n 0) := by
  rw [show (Value.int .u8 0).cells = #[Value.int .u8 0] from rfl, toList_madeCells_one, Nat.mul_one]
  simp [bvs, bval]
/-- What a function comes to that hands back bytes of its own. -/
def RetB (E : TypeId) (w : World) (l : List UInt8) (e : Ending) (w' : World) : Prop := ∃ v, e = .returned v ∧ w'.ownsRow w.heap.size E 1 v l.length (bvs l) ∧ Below w.heap.size w w'
end Go.Proofs.Ytiehfaiadhhndaa
