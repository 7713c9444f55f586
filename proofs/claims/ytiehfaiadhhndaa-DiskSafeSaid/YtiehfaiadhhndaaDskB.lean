/-
  Disk: the model; may; Read.
-/
import Derived.Test.YtiehfaiadhhndaaDskA
import Derived.Deep.RegionHeld3
import Derived.StillTailTactics
import Derived.Deep.QuietTactic
import Derived.BigQuiet
namespace Go.Proofs.Ytiehfaiadhhndaa
open Go.RowKit Go.Shelf
set_option linter.unusedVariables false
set_option linter.unusedSimpArgs false
structure Dk where
  S : List Sc
  Q : List Wr
  dead : Bool
  arm : Int
  deeds : Int
  cap : Nat
/-- A disk in memory: its struct at p, its sectors at gS, its queue as the slice vq; all of it at base or beyond. -/
structure DkAt (w : World) (base p gS : Nat) (vq : Value) (D : Dk) : Prop where
  head : w.heap[p]? = some (.cells #[.bool D.dead, .int .i64 D.arm, .slice (some ⟨gS, 0, none⟩) D.S.length D.cap, vq, .int .i64 D.deeds] 69 (0, 0))
  secs : ArrAt w gS 31 scF 128 D.S D.cap
  que : w.ownsRow base 71 129 vq D.Q.length (rowsOf wrF D.Q)
  bp : base ≤ p
  bS : base ≤ gS
  pS : p ≠ gS
  qp : ∀ k, vq.ownBlock = some k → k ≠ p ∧ k ≠ gS
/-- What an operation of it may write into. -/
def Ft (p gS : Nat) (vq : Value) (k : Nat) : Prop := k = p ∨ k = gS ∨ vq.ownBlock = some k
section
variable {w w' : World} {base p gS : Nat} {vq : Value} {D : Dk}
theorem DkAt.lt (h : DkAt w base p gS vq D) : p < w.heap.size ∧ gS < w.heap.size ∧ ∀ k, vq.ownBlock = some k → k < w.heap.size :=
  ⟨(Array.getElem?_eq_some_iff.1 h.head).1, RawAt.lt h.secs, own_block_lt h.que⟩
theorem DkAt.keep {F : Nat → Prop} (h : DkAt w base p gS vq D) (hk : Keep F w w') (hp : ¬ F p) (hS : ¬ F gS) (hq : ∀ k, vq.ownBlock = some k → ¬ F k) : DkAt w' base p gS vq D :=
  ⟨hk.heap h.head hp, RawAt.keep h.secs hk hS, by
    rcases h.que with ⟨h1, h2 | ⟨g, cap, cur, e1, e2, e3, e4⟩⟩
    · exact ⟨h1, .inl h2⟩
    · exact ⟨h1, .inr ⟨g, cap, cur, e1, e2, hk.heap e3 (hq g (by rw [e1]; rfl)), e4⟩⟩, h.bp, h.bS, h.pS, h.qp⟩
theorem DkAt.below (h : DkAt w base p gS vq D) (hb : Below w.heap.size w w') : DkAt w' base p gS vq D :=
  h.keep (Keep.of_below (F := fun _ => False) hb) (fun h => h) (fun h => h) (fun _ _ h => h)
theorem cells_of {w : World} {g : Nat} {cs : Array Value} {t : TypeId} (h : w.heap[g]? = some (.cells cs t (0, 0))) (i : Nat) : w.cell? ⟨g, i, none⟩ = cs[i]? := cell_row h i
theorem DkAt.cells (h : DkAt w base p gS vq D) : w.cell? ⟨p, 0, none⟩ = some (.bool D.dead) ∧ w.cell? ⟨p, 1, none⟩ = some (.int .i64 D.arm) ∧ w.cell? ⟨p, 2, none⟩ = some (.slice (some ⟨gS, 0, none⟩) D.S.length D.cap) ∧
    w.cell? ⟨p, 3, none⟩ = some vq ∧ w.cell? ⟨p, 4, none⟩ = some (.int .i64 D.deeds) := ⟨cell_row h.head 0, cell_row h.head 1, cell_row h.head 2, cell_row h.head 3, cell_row h.head 4⟩
theorem rows_get {α : Type} {f : α → List Value} {k : Nat} (hk : ∀ x, (f x).length = k) {L : List α} {cs : List Value} (h : cs = rowsOf f L) {i : Nat} {x : α} (hi : L[i]? = some x) {j : Nat} (hj : j < k) : cs[i * k + j]? = (f x)[j]? := by
  subst h; exact rowsOf_get hk L i j x hi hj
/-- The queue as the iterator reads it. -/
theorem DkAt.qat (h : DkAt w base p gS vq D) (n0 : Nat) (hn : w.heap.size ≤ n0) : QAt w n0 vq D.Q := by
  have hlt := h.lt.2.2
  rcases h.que with ⟨h1, ⟨e1, e2⟩ | ⟨g, cap, cur, e1, e2, e3, e4, e5, e6, e7⟩⟩
  · exact .inl ⟨e1, List.eq_nil_of_length_eq_zero e2⟩
  · refine .inr ⟨g, 0, cap, e1, Nat.lt_of_lt_of_le (hlt g (by rw [e1]; rfl)) hn, fun j hj i v hv => ?_⟩
    have hi : i < 129 := by have := (List.getElem?_eq_some_iff.1 hv).1; rwa [wrF_len] at this
    rw [cell_row e3, Nat.zero_add]
    have hx : D.Q[j]? = some (D.Q.getD j wr0) := by rw [List.getD_eq_getElem?_getD, List.getElem?_eq_getElem hj]; rfl
    have hr := rowsOf_get wrF_len D.Q j i _ hx hi
    rw [hv, ← e7, List.getElem?_take_of_lt (by have : (j + 1) * 129 ≤ D.Q.length * 129 := Nat.mul_le_mul_right _ hj; omega)] at hr
    simpa using hr
theorem DkAt.sec (h : DkAt w base p gS vq D) {i : Nat} {s : Sc} (hi : D.S[i]? = some s) : w.rangeAt gS (i * 128) (scF s) := fun j v hv => by
  have hj : j < 128 := by have := (List.getElem?_eq_some_iff.1 hv).1; rwa [scF_len] at this
  rw [ArrAt.cell scF_len h.secs i j s hi hj]; exact hv
end
/-! ### may -/
def mayE (D : Dk) (at_ : Int) : Int := if at_ < 0 ∨ (D.S.length : Int) ≤ at_ then 1 else if D.dead then 20 else 0
set_option maxHeartbeats 1000000 in
theorem dmay_any {w : World} {base p gS : Nat} {vq : Value} {D : Dk} (at_ : Int) (h : DkAt w base p gS vq D) :
    Calls Try.prog 25 #[.pointer (some ⟨p, 0, none⟩), .int .i64 at_] w fun e w' => e = .returned (.int .i64 (mayE D at_)) ∧ w = w' := by
  obtain ⟨c0, c1, c2, c3, c4⟩ := h.cells
  clear h c1 c3 c4
  have HE : Hid (mayE D at_ = if at_ < 0 ∨ (D.S.length : Int) ≤ at_ then 1 else if D.dead then 20 else 0) := Lib.hid rfl
  generalize mayE D at_ = E at *
  by_cases h0 : at_ < 0
  · have hE := HE.out
    rw [if_pos (.inl h0)] at hE
    subst hE
    clear HE
    go_enter Try.func25, Try.ntmps25
    go_wp2
    go_ret
    exact ⟨rfl, rfl⟩
  · by_cases h1 : (D.S.length : Int) ≤ at_
    · have hE := HE.out
      rw [if_pos (.inr h1)] at hE
      subst hE
      clear HE
      go_enter Try.func25, Try.ntmps25
      go_wp2
      go_ret
      exact ⟨rfl, rfl⟩
    · have hE := HE.out
      rw [if_neg (by omega)] at hE
      clear HE
      cases hd : D.dead with
      | true =>
        rw [hd] at hE c0
        rw [if_pos rfl] at hE
        subst hE
        go_enter Try.func25, Try.ntmps25
        go_wp2
        go_ret
        exact ⟨rfl, rfl⟩
      | false =>
        rw [hd] at hE c0
        rw [if_neg (by simp)] at hE
        subst hE
        go_enter Try.func25, Try.ntmps25
        go_wp2
        go_ret
        exact ⟨rfl, rfl⟩
/-! ### Read -/
def lastW (Q : List Wr) (at_ : Int) : Option Sc := (Q.reverse.find? (fun q => q.at_ == at_)).map Wr.s
theorem bk_get {Q : List Wr} {j : Nat} (h : j < Q.length) : Q.reverse[j]? = some (bk Q j).2 := by
  unfold bk
  rw [List.getElem?_reverse h, List.getD_eq_getElem?_getD, List.getElem?_eq_getElem (by omega)]; rfl
theorem lastW_none {Q : List Wr} {at_ : Int} (h : ∀ x ∈ uptoB (bk Q) Q.length, x.2.at_ ≠ at_) : lastW Q at_ = none := by
  unfold lastW
  rw [List.find?_eq_none.2 (fun q hq => ?_)]; rfl
  obtain ⟨j, hj, e⟩ := List.getElem_of_mem hq
  have hj' : j < Q.length := by simpa using hj
  have := bk_get hj'
  rw [List.getElem?_eq_getElem hj, e] at this
  have hx := h (bk Q j) (by unfold uptoB; exact List.mem_map.2 ⟨j, List.mem_range.2 hj', rfl⟩)
  injection this with this
  rw [this]; simpa using hx
theorem lastW_some {Q : List Wr} {at_ : Int} {k : Nat} (hk : k < Q.length) (h : ∀ x ∈ uptoB (bk Q) k, x.2.at_ ≠ at_) (he : (bk Q k).2.at_ = at_) : lastW Q at_ = some (bk Q k).2.s := by
  unfold lastW
  have h1 : Q.reverse.find? (fun q => q.at_ == at_) = some (bk Q k).2 := by
    rw [List.find?_eq_some_iff_getElem]
    have hk' : k < Q.reverse.length := by simpa using hk
    refine ⟨by simpa using he, k, hk', ?_, fun j hj => ?_⟩
    · have := bk_get hk
      rw [List.getElem?_eq_getElem hk'] at this
      injection this
    · have hj' : j < Q.length := by omega
      have := bk_get hj'
      rw [List.getElem?_eq_getElem (by omega)] at this
      injection this with this
      have hx := h (bk Q j) (by unfold uptoB; exact List.mem_map.2 ⟨j, List.mem_range.2 hj, rfl⟩)
      rw [this]; simpa using hx
  rw [h1]; rfl
def readS (D : Dk) (at_ : Int) : Sc := if mayE D at_ = 0 then (match lastW D.Q at_ with | some s => s | none => D.S.getD at_.toNat sc0) else sc0
end Go.Proofs.Ytiehfaiadhhndaa
