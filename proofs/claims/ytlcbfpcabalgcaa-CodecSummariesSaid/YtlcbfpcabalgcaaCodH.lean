/-
  Codec: write and read, what all kinds share.
-/
import Derived.Test.YtlcbfpcabalgcaaCodG
import Derived.Test.YtlcbfpcabalgcaaSeal
import Derived.Test.YtlcbfpcabalgcaaSealO
namespace Go.Proofs.Ytlcbfpcabalgcaa
open Go.RowKit
set_option linter.unusedVariables false
set_option linter.unusedSimpArgs false
set_option linter.unnecessarySimpa false
/-- A sealed sector of what was written; zeros, where it may not be. -/
def wrS (kind : UInt8) (ok : Bool) (L : List UInt8) : List UInt8 := if ok then makeS kind L else List.replicate 128 0
def wrE (kind : UInt8) (ok : Bool) (L : List UInt8) : Int := if ok then makeE kind L else 1
theorem wrS_length (k : UInt8) (ok : Bool) (b : List UInt8) : (wrS k ok b).length = 128 := by unfold wrS; split; exact makeS_length k b; simp
def WrS (w : World) (kind : UInt8) (ok : Bool) (L : List UInt8) (e : Ending) (w' : World) : Prop := e = .returned (.tuple #[secV (wrS kind ok L), .int .i64 (wrE kind ok L)]) ∧ Below w.heap.size w w'
theorem wrS_no {w w' : World} {kind : UInt8} {ok : Bool} {L : List UInt8} {e : Ending} (h : ok = false) (he : e = .returned (.tuple #[secV (List.replicate 128 0), .int .i64 1])) (hb : Below w.heap.size w w') : WrS w kind ok L e w' := by
  subst h; exact ⟨he, hb⟩
theorem wrS_yes {w w' : World} {kind : UInt8} {ok : Bool} {L : List UInt8} {e : Ending} (h : ok = true) (he : e = .returned (.tuple #[secV (makeS kind L), .int .i64 (makeE kind L)])) (hb : Below w.heap.size w w') : WrS w kind ok L e w' := by
  subst h; exact ⟨he, hb⟩
structure A3 (w w3 : World) (a b c : Obj) : Prop where
  h0 : w3.heap[w.heap.size]? = some a
  h1 : w3.heap[w.heap.size + 1]? = some b
  h2 : w3.heap[w.heap.size + 1 + 1]? = some c
  bel : Below w.heap.size w w3
  size : w3.heap.size = w.heap.size + 1 + 1 + 1
theorem a3 (w : World) (a b c : Obj) : A3 w (((w.alloc a).alloc b).alloc c) a b c := by
  have s1 : (w.alloc a).heap.size = w.heap.size + 1 := by simp
  have s2 : ((w.alloc a).alloc b).heap.size = w.heap.size + 1 + 1 := by simp
  have e0 := heap_alloc_last w a
  have e1 := heap_alloc_last (w.alloc a) b
  have e2 := heap_alloc_last ((w.alloc a).alloc b) c
  rw [s1] at e1
  rw [s2] at e2
  refine ⟨?_, ?_, e2, ((((Below.refl w.heap.size w).alloc (Nat.le_refl _) a).alloc (by rw [s1]; omega) b).alloc (by rw [s2]; omega) c), by simp⟩
  · exact old_heap (old_heap e0 ((Below.refl _ _).alloc (Nat.le_refl _) b)) ((Below.refl _ _).alloc (Nat.le_refl _) c)
  · exact old_heap e1 ((Below.refl _ _).alloc (Nat.le_refl _) c)
theorem below_row {w w' : World} {n r : Nat} {cs : Array Value} (h : Below n w w') (hr : n ≤ r) : Below n w (w'.setRow r cs) :=
  h.trans ⟨rfl, rfl, rfl, by rw [setRow_size]; exact Nat.le_refl _, fun k hk => setRow_other _ _ _ _ (by omega)⟩
theorem kind_ne (a b : UInt8) (h : a ≠ b) : ((a.toNat : Int) != (b.toNat : Int)) = true := by
  have h2 : a.toNat ≠ b.toNat := fun e => h (UInt8.toNat_inj.1 e)
  have h3 : (a.toNat : Int) ≠ (b.toNat : Int) := by omega
  exact bne_iff_ne.2 h3
theorem kind_eq (a : UInt8) : ((a.toNat : Int) != (a.toNat : Int)) = false := by simp
/-- What reading comes to: the thing's cells, or those of none. -/
def RdS (w : World) (ok : Bool) (V Z : Array Value) (e : Ending) (w' : World) : Prop := e = .returned (.tuple #[.agg (if ok then V else Z), .int .i64 (if ok then 0 else 21)]) ∧ Below w.heap.size w w'
theorem rdS_no {w w' : World} {ok : Bool} {V Z : Array Value} {e : Ending} (h : ok = false) (he : e = .returned (.tuple #[.agg Z, .int .i64 21])) (hb : Below w.heap.size w w') : RdS w ok V Z e w' := by
  subst h; exact ⟨he, hb⟩
theorem rdS_yes {w w' : World} {ok : Bool} {V Z : Array Value} {e : Ending} (h : ok = true) (he : e = .returned (.tuple #[.agg V, .int .i64 0])) (hb : Below w.heap.size w w') : RdS w ok V Z e w' := by
  subst h; exact ⟨he, hb⟩
theorem openL_le (l : List UInt8) : (openL l).length ≤ 255 := by
  unfold openL
  split
  · unfold bodyOf; rw [List.length_take]; have := (l.getD 3 0).toNat_lt; omega
  · simp
theorem own_apart {w : World} {base e n p : Nat} {v : Value} {l : List UInt8} (h : w.ownsRow base e 1 v n (bvs l)) (hp : p < base) : Apart (· = p) v l := by
  intro hne b o n' c e' f
  rcases h.2 with ⟨rfl, _⟩ | ⟨g, cap, cur, e1, e2, _⟩
  · cases e'
  · rw [e1] at e'
    injection e' with e' _ _
    injection e' with e'
    injection e' with e' _ _
    omega
theorem keep_below2 {n g pb : Nat} {w w4 w5 : World} (h : Below n w w4) (k : Keep (fun b => b = g ∨ b = pb) w4 w5) (hn : n ≤ w.heap.size) (hg : n ≤ g) (hp : n ≤ pb) : Below n w w5 :=
  h.trans (k.below (fun i e => by rcases e with e | e <;> omega) (Nat.le_trans hn h.size))
structure A4 (w w4 : World) (a b c d : Obj) : Prop where
  h0 : w4.heap[w.heap.size]? = some a
  h1 : w4.heap[w.heap.size + 1]? = some b
  h2 : w4.heap[w.heap.size + 1 + 1]? = some c
  h3 : w4.heap[w.heap.size + 1 + 1 + 1]? = some d
  bel : Below w.heap.size w w4
  size : w4.heap.size = w.heap.size + 1 + 1 + 1 + 1
theorem a4 (w : World) (a b c d : Obj) : A4 w ((((w.alloc a).alloc b).alloc c).alloc d) a b c d := by
  have h := a3 w a b c
  have e := heap_alloc_last (((w.alloc a).alloc b).alloc c) d
  rw [h.size] at e
  have hb : Below (((w.alloc a).alloc b).alloc c).heap.size (((w.alloc a).alloc b).alloc c) ((((w.alloc a).alloc b).alloc c).alloc d) := (Below.refl _ _).alloc (Nat.le_refl _) d
  exact ⟨old_heap h.h0 hb, old_heap h.h1 hb, old_heap h.h2 hb, e, h.bel.trans (hb.mono (by rw [h.size]; omega)), by rw [World.size_alloc, h.size]⟩
end Go.Proofs.Ytlcbfpcabalgcaa
