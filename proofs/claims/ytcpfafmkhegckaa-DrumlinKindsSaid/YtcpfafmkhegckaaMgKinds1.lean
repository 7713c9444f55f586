/-
  The contracts of a sector's writer, part by part.
-/
import Derived.Test.YtcpfafmkhegckaaMgKinds0
import Derived.Deep.RegionHeld3
import Derived.Deep.QuietTactic
import Derived.BigQuiet
import Derived.Deep.DeepCutAuto
import Derived.Deep.CutBlock
import Derived.IntWalk
import Derived.Laws.CopyOwn
import Derived.Deep.Slices
import Derived.ChangeSame
import Derived.Maps.AppendAt
namespace Go.Proofs.Ytcpfafmkhegckaa
open Go.RowKit
set_option linter.unusedVariables false
set_option linter.unusedSimpArgs false

/-! ### plain -/
def zpad (n : Nat) (l : List UInt8) : List UInt8 := l ++ List.replicate (n - l.length) 0
theorem zpad_length (n : Nat) (l : List UInt8) (h : l.length ≤ n) : (zpad n l).length = n := by simp [zpad]; omega
/-- A writer's state: what is written, the error. -/
abbrev WSt := List UInt8 × Int
def wNum (s : WSt) (width : Int) (x : Nat) : WSt := if s.2 = 0 then (if putOk 128 s.1.length width x then (s.1 ++ le width.toNat x, 0) else (s.1, 1)) else s
def wBytes (s : WSt) (size : Int) (b : List UInt8) : WSt := if s.2 = 0 then (if size < b.length ∨ size > 128 - (s.1.length : Int) then (s.1, 1) else (s.1 ++ (b ++ List.replicate (size.toNat - b.length) 0), 0)) else s
theorem wNum_le (s : WSt) (width : Int) (x : Nat) (h : s.1.length ≤ 128) : (wNum s width x).1.length ≤ 128 := by
  unfold wNum
  split
  · split
    · rename_i _ hp
      simp only [putOk, Bool.and_eq_true] at hp
      obtain ⟨h1, h2, h3, h4⟩ := (fitsB_iff _ _ _).1 hp.1
      simp; omega
    · exact h
  · exact h
theorem wBytes_le (s : WSt) (size : Int) (b : List UInt8) (h : s.1.length ≤ 128) : (wBytes s size b).1.length ≤ 128 := by
  unfold wBytes
  split
  · split
    · exact h
    · simp; omega
  · exact h
/-- A writer's cells. -/
def wrCells (s : WSt) : Array Value := (bvs (zpad 128 s.1) ++ [Value.int .i64 s.1.length, Value.int .i64 s.2]).toArray
theorem wrCells_size (s : WSt) (h : s.1.length ≤ 128) : (wrCells s).size = 130 := by simp [wrCells, zpad_length _ _ h]
theorem wrCells_at (s : WSt) (h : s.1.length ≤ 128) : (wrCells s)[128]? = some (.int .i64 s.1.length) := by
  have hl : (bvs (zpad 128 s.1)).length = 128 := by simp [zpad_length _ _ h]
  unfold wrCells
  rw [List.getElem?_toArray, List.getElem?_append_right (by omega), hl]; rfl
theorem wrCells_err (s : WSt) (h : s.1.length ≤ 128) : (wrCells s)[129]? = some (.int .i64 s.2) := by
  have hl : (bvs (zpad 128 s.1)).length = 128 := by simp [zpad_length _ _ h]
  unfold wrCells
  rw [List.getElem?_toArray, List.getElem?_append_right (by omega), hl]; rfl
/-- A writer that lies in a block. -/
def WrAt (w : World) (g : Nat) (s : WSt) : Prop := s.1.length ≤ 128 ∧ w.heap[g]? = some (.cells (wrCells s) 114 (0, 0))
/-- Only one block is another one. -/
def OnlyAt (g : Nat) (w w' : World) : Prop := w.grownBy w' (some g) ∧ w'.heap.size = w.heap.size
theorem OnlyAt.refl (g : Nat) (w : World) : OnlyAt g w w := ⟨World.grownBy.refl _ _, rfl⟩
theorem OnlyAt.row {g : Nat} {w w' : World} (h : OnlyAt g w w') (cs : Array Value) : OnlyAt g w (w'.setRow g cs) :=
  ⟨⟨h.1.os, h.1.tape, h.1.output, by rw [setRow_size]; exact h.1.size, fun k hk hne => by rw [setRow_other w' g k cs (fun e => hne (by rw [e]))]; exact h.1.block k hk hne⟩, by rw [setRow_size]; exact h.2⟩
theorem OnlyAt.drewN {g : Nat} {w w' : World} (h : OnlyAt g w w') (n : Nat) : OnlyAt g w (w'.drewN n) := ⟨⟨h.1.os, h.1.tape, h.1.output, h.1.size, h.1.block⟩, h.2⟩
theorem OnlyAt.drew {g : Nat} {w w' : World} (h : OnlyAt g w w') : OnlyAt g w w'.drew := ⟨⟨h.1.os, h.1.tape, h.1.output, h.1.size, h.1.block⟩, h.2⟩
/-- What a writer's step comes to. -/
def WrTo (w : World) (g : Nat) (s : WSt) (e : Ending) (w' : World) : Prop := e = .returned (.tuple #[]) ∧ WrAt w' g s ∧ OnlyAt g w w'

/-- Put into a window of a row whose cells are known. -/
theorem put_row (g o n c : Nat) (cur : Array Value) (t : TypeId) (at_ width : Int) (x : Nat) (w : World) (hg : w.heap[g]? = some (.cells cur t (0, 0))) (hon : o + n ≤ cur.size) (hn : n ≤ 140737488355328) (hx : x < 2 ^ 64) :
    Calls Try.prog 107 #[.slice (some ⟨g, o, none⟩) n c, .int .i64 at_, .int .i64 width, .int .u64 x] w fun e w' =>
      e = .returned (.int .i64 (putE n at_ width x)) ∧ w' = w.setRow g (if putOk n at_ width x then written cur (o + at_.toNat) (le width.toNat x) else cur) := by
  cases hp : putOk n at_ width x with
  | false =>
    refine (put_no (some ⟨g, o, none⟩) n c at_ width x w hn hp hx).mono fun e w' ⟨h1, h2⟩ => ?_
    subst h2
    refine ⟨by rw [h1]; simp [putE, hp], ?_⟩
    simp only [Bool.false_eq_true, if_false]
    exact (setRow_self w g cur t _ hg).symm
  | true =>
    have hp' := hp
    simp only [putOk, Bool.and_eq_true, decide_eq_true_eq] at hp'
    obtain ⟨h1, h2, h3, h4⟩ := (fitsB_iff _ _ _).1 hp'.1
    obtain ⟨a, rfl⟩ := Int.eq_ofNat_of_zero_le h3
    obtain ⟨k, rfl⟩ := Int.eq_ofNat_of_zero_le (show 0 ≤ width by omega)
    simp only [Int.toNat_natCast] at hp' ⊢
    refine (put_yes g o n c cur t a k x w hg hon hn (by omega) (by omega) (by omega) hp'.2).mono fun e w' ⟨h5, h6⟩ => ?_
    exact ⟨by rw [h5]; simp [putE, hp], by simpa using h6⟩
/-- The cells behind a number that was put. -/
theorem written_num (l : List UInt8) (k x : Nat) (e e' : Int) (h : l.length + k ≤ 128) :
    ((written (wrCells (l, e)) l.length (le k x)).setIfInBounds 129 (.int .i64 e')).setIfInBounds 128 (.int .i64 ((l.length + k : Nat) : Int)) = wrCells (l ++ le k x, e') := by
  apply Array.ext_getElem?
  intro i
  have hs : (written (wrCells (l, e)) l.length (le k x)).size = 130 := by
    rw [written_size _ _ _ (by rw [wrCells_size _ (by simp; omega)]; simp; omega), wrCells_size _ (by simp; omega)]
  have hs0 : (wrCells (l, e)).size = 130 := wrCells_size _ (by simp; omega)
  rw [Array.getElem?_setIfInBounds, Array.getElem?_setIfInBounds]
  by_cases h128 : 128 = i
  · subst h128
    rw [if_pos rfl, if_pos (by simp [hs]), wrCells_at _ (by simp; omega)]; simp
  · rw [if_neg h128]
    by_cases h129 : 129 = i
    · subst h129
      rw [if_pos rfl, if_pos (by omega), wrCells_err _ (by simp; omega)]
    · rw [if_neg h129]
      by_cases hi : i < 128
      · have hb : ∀ (s : WSt), s.1.length ≤ 128 → (wrCells s)[i]? = some (.int .u8 (((zpad 128 s.1).getD i 0).toNat : Int)) := fun s hs' => by
          unfold wrCells
          rw [List.getElem?_toArray, List.getElem?_append_left (by simp [zpad_length _ _ hs']; omega), bvs_get _ _ (by rw [zpad_length _ _ hs']; exact hi)]
        rw [hb (l ++ le k x, e') (by simp; omega)]
        by_cases c1 : i < l.length
        · rw [written_out _ _ _ (by rw [hs0]; simp; omega) _ (.inl c1), hb (l, e) (by simp; omega)]
          simp [zpad, List.getElem?_append_left c1, c1]
        · by_cases c2 : i < l.length + k
          · obtain ⟨j, rfl⟩ : ∃ j, i = l.length + j := ⟨i - l.length, by omega⟩
            rw [written_in _ _ _ (by rw [hs0]; simp; omega) _ (by simp; omega)]
            have : (zpad 128 (l ++ le k x)).getD (l.length + j) 0 = (le k x).getD j 0 := by
              simp only [zpad, List.append_assoc, List.getD_eq_getElem?_getD]
              rw [List.getElem?_append_right (by omega), Nat.add_sub_cancel_left, List.getElem?_append_left (by simp; omega)]
            rw [this]
          · rw [written_out _ _ _ (by rw [hs0]; simp; omega) _ (.inr (by simp; omega)), hb (l, e) (by simp; omega)]
            have e1 : (zpad 128 l).getD i 0 = 0 := by
              simp only [zpad, List.getD_eq_getElem?_getD]
              rw [List.getElem?_append_right (by omega), List.getElem?_replicate]
              split <;> rfl
            have e2 : (zpad 128 (l ++ le k x)).getD i 0 = 0 := by
              simp only [zpad, List.getD_eq_getElem?_getD]
              rw [List.getElem?_append_right (by simp; omega), List.getElem?_replicate]
              split <;> rfl
            rw [e1, e2]
      · rw [Array.getElem?_eq_none (by omega), Array.getElem?_eq_none (by rw [wrCells_size _ (by simp; omega)]; omega)]

theorem wrCells_err_set (l : List UInt8) (e e' : Int) (h : l.length ≤ 128) : (wrCells (l, e)).setIfInBounds 129 (.int .i64 e') = wrCells (l, e') := by
  have hb : (bvs (zpad 128 (l, e).1)).length = 128 := by simp [zpad_length _ _ h]
  unfold wrCells
  rw [List.setIfInBounds_toArray, List.set_append_right _ _ (by omega), hb]
  rfl
theorem WrAt.c128 {w : World} {g : Nat} {s : WSt} (h : WrAt w g s) : w.cell? ⟨g, 128, none⟩ = some (.int .i64 s.1.length) := by rw [cell_row h.2, wrCells_at _ h.1]
theorem WrAt.c129 {w : World} {g : Nat} {s : WSt} (h : WrAt w g s) : w.cell? ⟨g, 129, none⟩ = some (.int .i64 s.2) := by rw [cell_row h.2, wrCells_err _ h.1]
set_option maxHeartbeats 1000000 in
set_option maxRecDepth 10000 in
theorem wnum_bad (g : Nat) (l : List UInt8) (e : Int) (width : Int) (x : Nat) (w : World) (he : e ≠ 0) (h : WrAt w g (l, e)) :
    Calls Try.prog 51 #[.pointer (some ⟨g, 0, none⟩), .int .i64 width, .int .u64 x] w (WrTo w g (l, e)) := by
  have c2 := h.c129
  have hne : (e == 0) = false := by simpa using he
  have H := Lib.hid h
  clear h he
  go_enter Try.func51, Try.ntmps51
  go_wp2
  go_end0
  exact ⟨rfl, H.out, OnlyAt.refl _ _⟩
set_option maxHeartbeats 1000000 in
set_option maxRecDepth 10000 in
theorem wnum_ok (g : Nat) (l : List UInt8) (width : Int) (x : Nat) (w : World) (hx : x < 2 ^ 64) (h : WrAt w g (l, 0)) (hp : putOk 128 l.length width x = true) :
    Calls Try.prog 51 #[.pointer (some ⟨g, 0, none⟩), .int .i64 width, .int .u64 x] w (WrTo w g (l ++ le width.toNat x, 0)) := by
  have hl : l.length ≤ 128 := h.1
  have hp' := hp
  simp only [putOk, Bool.and_eq_true] at hp'
  obtain ⟨q1, q2, q3, q4⟩ := (fitsB_iff _ _ _).1 hp'.1
  obtain ⟨k, rfl⟩ := Int.eq_ofNat_of_zero_le (show 0 ≤ width by omega)
  have c1 := h.c128
  have c2 := h.c129
  have hsz : (wrCells (l, 0)).size = 130 := wrCells_size _ hl
  have hE : putE 128 l.length k x = 0 := by simp [putE, hp]
  have HE := Lib.hid hE
  have HP := Lib.hid hp
  have HH := Lib.hid h.2
  have HS := Lib.hid hsz
  have HX := Lib.hid hx
  clear h hp hp' hE hsz hx
  go_enter Try.func51, Try.ntmps51
  go_wp2
  go_region_held3 (fun w' => w'.cell? ⟨g, 128, none⟩ = some (.int .i64 l.length)) (first | exact c1 | exact c3 | (rw [World.cell?_setCell_other _ _ _ _ (by simp)]; exact c3))
    (first
      | (go_at_call 107; refine (put_row g 0 128 128 (wrCells (l, 0)) 114 l.length k x w.drew HH.out (by rw [HS.out]; omega) (by omega) HX.out).mono ?_; rintro e w1 ⟨rfl, hw1⟩; rw [HE.out]; rw [HP.out, if_pos rfl, Nat.zero_add, Int.toNat_natCast, Int.toNat_natCast] at hw1; have hg1 := setRow_heap w.drew g _ (written (wrCells (l, 0)) l.length (le k x)) _ _ HH.out; rw [← hw1] at hg1; have hs1 : (written (wrCells (l, 0)) l.length (le k x)).size = 130 := by { rw [written_size _ _ _ (by rw [HS.out]; simp; omega), HS.out] }; have c3 : w1.cell? ⟨g, 128, none⟩ = some (.int .i64 l.length) := by { rw [cell_row hg1, written_out _ _ _ (by rw [HS.out]; simp; omega) _ (.inr (by simp; omega)), wrCells_at _ hl] }; have c4 : w1.cell? ⟨g, 129, none⟩ = some (.int .i64 0) := by { rw [cell_row hg1, written_out _ _ _ (by rw [HS.out]; simp; omega) _ (.inr (by simp; omega)), wrCells_err _ hl] }; have f4 := free_row hg1 129; have f3 := free_row hg1 128; have HG := Lib.hid hg1; have HW := Lib.hid hw1; clear hg1 hw1))
  go_wp2
  go_end0
  have e1 : (w1.setCell ⟨g, 129, none⟩ (.int .i64 0)).setCell ⟨g, 128, none⟩ (.int .i64 ((l.length : Int) + (k : Int))) = w.drew.setRow g (wrCells (l ++ le k x, 0)) := by
    rw [HW.out, setRow_setCell (w := w.drew) HH.out, setRow_setCell (w := w.drew) HH.out]
    have := written_num l k x 0 0 (by omega)
    rw [Int.natCast_add] at this
    rw [this]
  rw [e1]
  exact ⟨rfl, ⟨by simp; omega, setRow_heap w.drew g _ _ _ _ HH.out⟩, (OnlyAt.refl g w).drew.row _⟩
set_option maxHeartbeats 1000000 in
set_option maxRecDepth 10000 in
theorem wnum_no (g : Nat) (l : List UInt8) (width : Int) (x : Nat) (w : World) (hx : x < 2 ^ 64) (h : WrAt w g (l, 0)) (hp : putOk 128 l.length width x = false) :
    Calls Try.prog 51 #[.pointer (some ⟨g, 0, none⟩), .int .i64 width, .int .u64 x] w (WrTo w g (l, 1)) := by
  have hl : l.length ≤ 128 := h.1
  have c1 := h.c128
  have c2 := h.c129
  have hsz : (wrCells (l, 0)).size = 130 := wrCells_size _ hl
  have hE : putE 128 l.length width x = 1 := by simp [putE, hp]
  have HE := Lib.hid hE
  have HP := Lib.hid hp
  have HH := Lib.hid h.2
  have HS := Lib.hid hsz
  have HX := Lib.hid hx
  clear h hp hE hsz hx
  go_enter Try.func51, Try.ntmps51
  go_wp2
  go_region_held3 (fun w' => w'.cell? ⟨g, 128, none⟩ = some (.int .i64 l.length)) (first | exact c1 | exact c3 | (rw [World.cell?_setCell_other _ _ _ _ (by simp)]; exact c3))
    (first
      | (go_at_call 107; refine (put_row g 0 128 128 (wrCells (l, 0)) 114 l.length width x w.drew HH.out (by rw [HS.out]; omega) (by omega) HX.out).mono ?_; rintro e w1 ⟨rfl, hw1⟩; rw [HE.out]; rw [HP.out, if_neg (by decide)] at hw1; have hg1 := setRow_heap w.drew g _ (wrCells (l, 0)) _ _ HH.out; rw [← hw1] at hg1; have c3 : w1.cell? ⟨g, 128, none⟩ = some (.int .i64 l.length) := by { rw [cell_row hg1, wrCells_at _ hl] }; have c4 : w1.cell? ⟨g, 129, none⟩ = some (.int .i64 0) := by { rw [cell_row hg1, wrCells_err _ hl] }; have f4 := free_row hg1 129; have HG := Lib.hid hg1; have HW := Lib.hid hw1; clear hg1 hw1))
  go_wp2
  go_end0
  have e1 : w1.setCell ⟨g, 129, none⟩ (.int .i64 1) = w.drew.setRow g (wrCells (l, 1)) := by
    rw [HW.out, setRow_setCell (w := w.drew) HH.out]
    congr 1
    exact wrCells_err_set l 0 1 hl
  rw [e1]
  exact ⟨rfl, ⟨hl, setRow_heap w.drew g _ _ _ _ HH.out⟩, (OnlyAt.refl g w).drew.row _⟩
/-- A number into a sector that is written. -/
theorem wnum_any (g : Nat) (s : WSt) (width : Int) (x : Nat) (w : World) (hx : x < 2 ^ 64) (h : WrAt w g s) :
    Calls Try.prog 51 #[.pointer (some ⟨g, 0, none⟩), .int .i64 width, .int .u64 x] w (WrTo w g (wNum s width x)) := by
  obtain ⟨l, e⟩ := s
  by_cases he : e = 0
  · subst he
    cases hp : putOk 128 l.length width x with
    | true =>
      have : wNum (l, 0) width x = (l ++ le width.toNat x, 0) := by simp [wNum, hp]
      rw [this]; exact wnum_ok g l width x w hx h hp
    | false =>
      have : wNum (l, 0) width x = (l, 1) := by simp [wNum, hp]
      rw [this]; exact wnum_no g l width x w hx h hp
  · have : wNum (l, e) width x = (l, e) := by simp [wNum, he]
    rw [this]; exact wnum_bad g l e width x w he h
/-! ### Bytes -/
theorem Byt.form {w : World} {v : Value} {l : List UInt8} (h : Byt w v l) : ∃ sp c, v = .slice sp l.length c ∧ (0 < l.length → ∃ b o, sp = some ⟨b, o, none⟩ ∧ RdB w b o l) := by
  rcases h with ⟨rfl, A, c, rfl, _⟩ | ⟨b, o, c, rfl, _, _, hr⟩
  · exact ⟨A, c, rfl, fun h => by simp at h⟩
  · exact ⟨_, c, rfl, fun _ => ⟨b, o, rfl, hr⟩⟩
/-- copy into a row whose cells are known, as one step of a region that draws: the world behind it, exactly. -/
theorem step_copy_row {P : Program} {ops : Array Oper} {o : Oper} {a : Act} {w : World} {K : Act → World → Prop} {Q : Exit → Act → World → Prop} {E : Prop} (hgd : o.guard = none) (d s : Operand) (dT sT : TypeId)
    (ho : o.op = .call { callee := .builtin .copy, args := #[d, s], argTypes := #[dT, sT] }) (elem : TypeId) (hu : P.underlying dT = some (.slice elem)) (hsz : (P.info? elem).map (·.size) = some 1)
    (dp sp : Option Addr) (dLen dCap sLen sCap : Nat) (hd : a.eval d = .slice dp dLen dCap) (hs : a.eval s = .slice sp sLen sCap)
    (g off : Nat) (cur : List Value) (t : TypeId) (hg : w.heap[g]? = some (.cells cur.toArray t (0, 0))) (cs : List Value) (hn : cs.length = Nat.min sLen dLen)
    (hpos : 0 < cs.length → dp = some ⟨g, off, none⟩ ∧ ∃ ad, sp = some ad ∧ ∀ j v, cs[j]? = some v → w.cell? (ad.add j) = some v)
    (hfit : off + cs.length ≤ cur.length) (h1 : ∀ v ∈ cs, v.oneCell' = true)
    (h : K (a.put o.dst (goInt cs.length)) (w.setRow g (splice cur off cs).toArray)) :
    if Region.wanted o (yielded ops a.tmps) = true then Oper.wp P o a w K Q else E := by
  have hw : Region.wanted o (yielded ops a.tmps) = true := by simp [Region.wanted, hgd]
  rw [if_pos hw]
  by_cases h0 : cs.length = 0
  · obtain rfl : cs = [] := List.eq_nil_of_length_eq_zero h0
    have hrun := run_copy_none (P := P) w dT sT o.type elem dp sp dLen dCap sLen sCap hu hsz (by simpa using hn.symm)
    unfold Oper.wp
    simp [execOp, ho, resolve, invoke, builtin, hd, hs, hrun, Result.andThen]
    rw [splice_nil, setRow_self w g _ t _ hg] at h
    exact h
  · obtain ⟨rfl, ad, rfl, hsrc⟩ := hpos (by omega)
    have hrun := run_copy_row (P := P) w dT sT o.type elem g off dLen dCap ad sLen sCap cur.toArray t cs hu hsz hg hn hsrc (by simpa using hfit) h1
    unfold Oper.wp
    simp [execOp, ho, resolve, invoke, builtin, hd, hs, hrun, Result.andThen]
    exact h
theorem RdB.cells {w : World} {b o : Nat} {l : List UInt8} (h : RdB w b o l) (j : Nat) (v : Value) (hv : (bvs l)[j]? = some v) : w.cell? ((⟨b, o, none⟩ : Addr).add j) = some v := by
  have hj : j < l.length := by
    rcases Nat.lt_or_ge j l.length with hlt | hge
    · exact hlt
    · rw [List.getElem?_eq_none (by simpa using hge)] at hv; cases hv
  rw [add_at, h j hj, ← hv, bvs_get _ _ hj]
def wrList (s : WSt) : List Value := bvs (zpad 128 s.1) ++ [Value.int .i64 s.1.length, Value.int .i64 s.2]
theorem wrList_arr (s : WSt) : (wrList s).toArray = wrCells s := rfl
theorem wrList_len (s : WSt) (h : s.1.length ≤ 128) : (wrList s).length = 130 := by simp [wrList, zpad_length _ _ h]
/-- The cells behind bytes that were laid in. -/
theorem splice_bytes (l b : List UInt8) (e : Int) (k : Nat) (h : l.length + k ≤ 128) (hb : b.length ≤ k) :
    ((splice (wrList (l, e)) l.length (bvs b)).toArray).setIfInBounds 128 (.int .i64 ((l.length + k : Nat) : Int)) = wrCells (l ++ (b ++ List.replicate (k - b.length) 0), e) := by
  have e1 : splice (wrList (l, e)) l.length (bvs b) = bvs (l ++ b ++ List.replicate (128 - l.length - b.length) 0) ++ [Value.int .i64 l.length, Value.int .i64 e] := by
    unfold splice wrList zpad
    have h1 : (bvs (l ++ List.replicate (128 - l.length) 0) ++ [Value.int .i64 l.length, Value.int .i64 e]).take l.length = bvs l := by
      rw [List.take_append_of_le_length (by simp), bvs_append, List.take_append_of_le_length (by simp), List.take_of_length_le (by simp)]
    have h2 : (bvs (l ++ List.replicate (128 - l.length) 0) ++ [Value.int .i64 l.length, Value.int .i64 e]).drop (l.length + (bvs b).length) = bvs (List.replicate (128 - l.length - b.length) 0) ++ [Value.int .i64 l.length, Value.int .i64 e] := by
      rw [List.drop_append_of_le_length (by simp; omega), bvs_append, List.drop_append, List.drop_of_length_le (by simp)]
      simp [bvs]
    simp only [h1, h2]
    simp [bvs_append]
  rw [e1]
  have hl : (bvs (l ++ b ++ List.replicate (128 - l.length - b.length) 0)).length = 128 := by simp; omega
  rw [List.setIfInBounds_toArray, List.set_append_right _ _ (by omega), hl]
  unfold wrCells zpad
  congr 1
  have e2 : l ++ b ++ List.replicate (128 - l.length - b.length) 0 = (l ++ (b ++ List.replicate (k - b.length) 0)) ++ List.replicate (128 - (l ++ (b ++ List.replicate (k - b.length) (0 : UInt8))).length) 0 := by
    have : 128 - l.length - b.length = (k - b.length) + (128 - (l ++ (b ++ List.replicate (k - b.length) (0 : UInt8))).length) := by simp; omega
    rw [this, ← List.replicate_append_replicate]
    simp
  rw [e2]
  simp
  omega
set_option maxHeartbeats 1000000 in
set_option maxRecDepth 10000 in
theorem wbytes_bad (g : Nat) (l : List UInt8) (e : Int) (v : Value) (size : Int) (w : World) (he : e ≠ 0) (h : WrAt w g (l, e)) :
    Calls Try.prog 77 #[.pointer (some ⟨g, 0, none⟩), .int .i64 size, v] w (WrTo w g (l, e)) := by
  have c2 := h.c129
  have hne : (e == 0) = false := by simpa using he
  have H := Lib.hid h
  clear h he
  go_enter Try.func77, Try.ntmps77
  go_wp2
  go_end0
  exact ⟨rfl, H.out, OnlyAt.refl _ _⟩
set_option maxHeartbeats 1000000 in
set_option maxRecDepth 10000 in
theorem wbytes_no (g : Nat) (l b : List UInt8) (v : Value) (size : Int) (w : World) (h : WrAt w g (l, 0)) (hb : Byt w v b) (hs : size < b.length ∨ size > 128 - (l.length : Int)) :
    Calls Try.prog 77 #[.pointer (some ⟨g, 0, none⟩), .int .i64 size, v] w (WrTo w g (l, 1)) := by
  have c2 := h.c129
  have c1 := h.c128
  have hl : l.length ≤ 128 := h.1
  have f2 := free_row h.2 129
  obtain ⟨sp, c, rfl, _⟩ := hb.form
  have H := Lib.hid h
  clear h hb
  have hcut : ∀ K : Prop, (size < b.length → K) → ((b.length : Int) ≤ size → 128 - (l.length : Int) < size → K) → K := fun K x y => by
    by_cases k1 : size < b.length
    · exact x k1
    · exact y (by omega) (by omega)
  clear hs
  have hw : wrap64 (128 - (l.length : Int)) = 128 - (l.length : Int) := by rw [← i64_w]; exact IntWalk.i64_in _ (by omega)
  refine hcut _ ?_ ?_ <;> clear hcut <;> intros
  all_goals
    go_enter Try.func77, Try.ntmps77
    go_wp2
    go_end0
    have e1 : w.setCell ⟨g, 129, none⟩ (.int .i64 1) = w.setRow g (wrCells (l, 1)) := by rw [setCell_row H.out.2, wrCells_err_set l 0 1 hl]
    rw [e1]
    exact ⟨rfl, ⟨hl, setRow_heap w g _ _ _ _ H.out.2⟩, (OnlyAt.refl g w).row _⟩
set_option maxHeartbeats 1000000 in
set_option maxRecDepth 10000 in
theorem wbytes_ok (g : Nat) (l b : List UInt8) (v : Value) (k : Nat) (w : World) (h : WrAt w g (l, 0)) (hb : Byt w v b) (hs1 : b.length ≤ k) (hs2 : l.length + k ≤ 128) :
    Calls Try.prog 77 #[.pointer (some ⟨g, 0, none⟩), .int .i64 k, v] w (WrTo w g (l ++ (b ++ List.replicate (k - b.length) 0), 0)) := by
  have c2 := h.c129
  have c1 := h.c128
  have hl : l.length ≤ 128 := h.1
  have f1 := free_row h.2 128
  obtain ⟨sp, c, rfl, hsp⟩ := hb.form
  have H := Lib.hid h
  have HSP := Lib.hid hsp
  obtain ⟨n, hn⟩ : ∃ n, n = l.length := ⟨_, rfl⟩
  have HN := Lib.hid hn
  simp only [← hn] at c1 hs2 hl
  clear h hb hsp hn
  have hw : wrap64 (128 - (n : Int)) = 128 - (n : Int) := by rw [← i64_w]; exact IntWalk.i64_in _ (by omega)
  have hb1 : ¬ ((k : Int) < b.length) := by omega
  have hb2 : ¬ (128 - (n : Int) < (k : Int)) := by omega
  go_enter Try.func77, Try.ntmps77
  go_wp2
  have hcp : (fun w' : World => w'.cell? ⟨g, 128, none⟩ = some (.int .i64 n)) (w.drew.setRow g (splice (wrList (l, 0)) n (bvs b)).toArray) := by
    show _ = _
    rw [cell_row (setRow_heap w.drew g _ _ _ _ H.out.2)]
    rw [List.getElem?_toArray, splice_get_out _ _ _ (by rw [wrList_len (l, 0) H.out.1]; simp; omega) _ (.inr (by simp; omega))]
    have := wrCells_at (l, 0) H.out.1
    rw [← wrList_arr, List.getElem?_toArray] at this
    rw [this, HN.out]
  have HCP := Lib.hid hcp
  clear hcp
  have e1 : (w.drew.setRow g (splice (wrList (l, 0)) n (bvs b)).toArray).setCell ⟨g, 128, none⟩ (.int .i64 ((n : Int) + (k : Int))) = w.drew.setRow g (wrCells (l ++ (b ++ List.replicate (k - b.length) 0), 0)) := by
    rw [setRow_setCell (w := w.drew) H.out.2]
    have hn := HN.out
    have := splice_bytes l b 0 k (by omega) hs1
    rw [Int.natCast_add, ← hn] at this
    rw [this]
  have HE1 := Lib.hid e1
  clear e1
  have z1 : (0 : Int) ≤ (n : Int) := by omega
  have z2 : (n : Int) ≤ 128 := by omega
  go_region_held3 (fun w' => w'.cell? ⟨g, 128, none⟩ = some (.int .i64 n)) (first | exact c1 | exact HCP.out)
    ((refine step_copy_row rfl (.tmp 41) (.tmp 42) 118 118 rfl 5 Try.underlying118 (by kernel_rfl) _ _ _ _ _ _ rfl rfl g n (wrList (l, 0)) 114 H.out.2 (bvs b) (by rw [bvs_length]; exact (Nat.min_eq_left (by omega)).symm) (by intro hp; have hp' : 0 < b.length := by { simpa using hp }; refine ⟨by first | rfl | (simp; omega), ?_⟩; obtain ⟨bb, o, rfl, hr⟩ := HSP.out hp'; exact ⟨_, rfl, hr.cells⟩) (by rw [wrList_len (l, 0) H.out.1]; simp; omega) (bvs_oneCell b) ?_))
  have f3 := free_row (setRow_heap w.drew g _ (splice (wrList (l, 0)) n (bvs b)).toArray _ _ H.out.2) 128
  have hw2 : wrap64 ((n : Int) + (k : Int)) = (n : Int) + (k : Int) := by rw [← i64_w]; exact IntWalk.i64_in _ (by omega)
  go_wp2
  all_goals
    go_end0
    first
      | rw [HE1.out]
      | (subst h; rw [HE1.out])
    have hn := HN.out
    exact ⟨rfl, ⟨by clear hw hw2; simp; omega, setRow_heap w.drew g _ _ _ _ H.out.2⟩, (OnlyAt.refl g w).drew.row _⟩
/-- Bytes into a sector that is written. -/
theorem wbytes_any (g : Nat) (s : WSt) (b : List UInt8) (v : Value) (size : Int) (w : World) (h : WrAt w g s) (hb : Byt w v b) :
    Calls Try.prog 77 #[.pointer (some ⟨g, 0, none⟩), .int .i64 size, v] w (WrTo w g (wBytes s size b)) := by
  obtain ⟨l, e⟩ := s
  by_cases he : e = 0
  · subst he
    by_cases hs : size < b.length ∨ size > 128 - (l.length : Int)
    · have : wBytes (l, 0) size b = (l, 1) := by simp [wBytes, hs]
      rw [this]; exact wbytes_no g l b v size w h hb hs
    · obtain ⟨k, rfl⟩ := Int.eq_ofNat_of_zero_le (show 0 ≤ size by omega)
      have : wBytes (l, 0) k b = (l ++ (b ++ List.replicate (k - b.length) 0), 0) := by simp [wBytes]; omega
      rw [this]; exact wbytes_ok g l b v k w h hb (by omega) (by omega)
  · have : wBytes (l, e) size b = (l, e) := by simp [wBytes, he]
    rw [this]; exact wbytes_bad g l e v size w he h
end Go.Proofs.Ytcpfafmkhegckaa
/-
  A writer's sector; a reader.
-/
namespace Go.Proofs.Ytcpfafmkhegckaa
open Go.RowKit
set_option linter.unusedVariables false
set_option linter.unusedSimpArgs false
/-- What a writer's Sector answers. -/
def wSec (s : WSt) : List UInt8 := if s.2 = 0 then zpad 128 s.1 else List.replicate 128 0
theorem wrRange (g : Nat) (s : WSt) (w : World) (h : WrAt w g s) : w.rangeAt g 0 (bvs (zpad 128 s.1)) := fun j v hv => by
  rw [Nat.zero_add, cell_row h.2]
  have hj : j < (bvs (zpad 128 s.1)).length := (List.getElem?_eq_some_iff.1 hv).1
  unfold wrCells
  rw [List.getElem?_toArray, List.getElem?_append_left hj, hv]
set_option maxHeartbeats 1000000 in
set_option maxRecDepth 10000 in
theorem wsector_ok (g : Nat) (l : List UInt8) (w : World) (h : WrAt w g (l, 0)) :
    Calls Try.prog 52 #[.pointer (some ⟨g, 0, none⟩)] w fun e w' => e = .returned (.tuple #[secV (zpad 128 l), .int .i64 0]) ∧ Below w.heap.size w w' := by
  have c2 := h.c129
  have hr := wrRange g _ w h
  have hl : l.length ≤ 128 := h.1
  have H := Lib.hid h
  have HR := Lib.hid hr
  clear h hr
  have hz := zero_sec
  have hgl : g < w.heap.size := World.block_lt_of_cell? w _ c2
  go_enter Try.func52, Try.ntmps52
  go_wp2_with (first
    | (refine wpList_load_mid rfl 36 (.tmp 16) rfl g 0 rfl (bvs (zpad 128 l)) _ ((World.rangeAt_alloc HR.out _)) Try.underlying36 rfl (by rw [bvs_length, zpad_length _ _ hl]; exact size_sec) ?_)
    | (refine wpList_store_row rfl 36 (.tmp 2) (.tmp 17) rfl w.heap.size zArr _ 36 rfl rfl (heap_alloc_last _ _) (by rw [secV_size, zpad_length _ _ hl]; exact size_sec) (by rw [secV_size, zpad_length _ _ hl, zArr_size]) (sec_one _) ?_))
  rw [World.setRow_alloc_new]
  have hld := run_loadVar_new (P := Try.prog) w 36 (bvs (zpad 128 l)).toArray 128 5 Try.underlying36 (by rw [secV_size, zpad_length _ _ hl]; exact size_sec)
  exact bodyPost_ret (v := .tuple #[secV (zpad 128 l), .int .i64 0]) (results_cell2 Try.results52 rfl rfl hld) rfl ⟨rfl, (Below.refl _ _).alloc (Nat.le_refl _) _⟩
end Go.Proofs.Ytcpfafmkhegckaa
/-
  A reader of a sector.
-/
namespace Go.Proofs.Ytcpfafmkhegckaa
open Go.RowKit
set_option linter.unusedVariables false
set_option linter.unusedSimpArgs false
/-- A reader's state: the sector's bytes, where it is, the error. -/
structure RSt where
  l : List UInt8
  at_ : Nat
  e : Int
def rdCells (s : RSt) : Array Value := (bvs s.l ++ [Value.int .i64 s.at_, Value.int .i64 s.e]).toArray
def RdrAt (w : World) (g : Nat) (s : RSt) : Prop := s.l.length = 128 ∧ s.at_ ≤ 128 ∧ w.heap[g]? = some (.cells (rdCells s) 246 (0, 0))
set_option maxRecDepth 10000 in
theorem built_reader (l : List UInt8) (hl : l.length = 128) : Try.prog.built 246 [(0, .agg (bvs l).toArray)] = some (rdCells ⟨l, 0, 0⟩) := by
  have h1 : (Try.prog.info? 246).map (·.zero) = some (some (.agg (bvs (List.replicate 128 0) ++ [Value.int .i64 0, Value.int .i64 0]).toArray)) := by kernel_rfl
  have h2 : ∃ fs, Try.prog.underlying 246 = some (.struct fs) ∧ fs.toList.mapM (fun f => (Try.prog.info? f.type).map fun i => (f.offset, i.size)) = some [(0, 128), (128, 1), (129, 1)] := ⟨_, Try.underlying246, by kernel_rfl⟩
  obtain ⟨fs, hu, hp⟩ := h2
  unfold Program.built
  cases hit : Try.prog.info? 246 with
  | none => rw [hit] at h1; cases h1
  | some it =>
    rw [hit] at h1
    have hz : it.zero = some (.agg (bvs (List.replicate 128 0) ++ [Value.int .i64 0, Value.int .i64 0]).toArray) := by simpa using h1
    simp only [hu, hz, hp, Instr.fill, Value.cells]
    have hs : (bvs l).toArray.size = 128 := by simp [hl]
    simp only [List.getElem?_toArray, List.getElem?_cons_zero, hs]
    rw [if_neg (by simp)]
    have := fold_set 0 (bvs l) 0 (bvs (List.replicate 128 0) ++ [Value.int .i64 0, Value.int .i64 0]) (by simp; omega)
    rw [Array.zipIdx_toArray] at *
    simp only [List.foldl_toArray]
    rw [this]
    unfold rdCells
    congr 2
    rw [show 0 + 0 + (bvs l).length = 128 by simp [hl], List.drop_append_of_le_length (by simp), List.drop_of_length_le (by simp)]
    simp
set_option maxHeartbeats 1000000 in
set_option maxRecDepth 10000 in
theorem nread_any (l : List UInt8) (w : World) (hl : l.length = 128) :
    Calls Try.prog 110 #[secV l] w fun e w' => ∃ g, e = .returned (.pointer (some ⟨g, 0, none⟩)) ∧ w.heap.size ≤ g ∧ RdrAt w' g ⟨l, 0, 0⟩ ∧ Below w.heap.size w w' := by
  have HL := Lib.hid hl
  clear hl
  unfold secV
  have HB := Lib.hid (built_reader l HL.out)
  go_enter Try.func110, Try.ntmps110
  go_wp2_with (first
    | (refine wpList_load_row rfl 36 (.tmp 1) rfl w.heap.size rfl _ _ _ _ (heap_alloc_last _ _) Try.underlying36 rfl (by rw [secV_size, HL.out]; exact size_sec) ?_)
    | (refine wpList_build_at rfl 246 _ rfl [(0, .agg (bvs l).toArray)] (by simp [Act.eval, Act.put]) _ HB.out ?_))
  go_ret
  exact ⟨w.heap.size + 1, rfl, by omega, ⟨HL.out, by simp, by have := heap_alloc_last (w.alloc (.cells (bvs l).toArray 36)) (.cells (rdCells ⟨l, 0, 0⟩) 246); simpa using this⟩, ((Below.refl _ _).alloc (Nat.le_refl _) _).alloc (by simp) _⟩
theorem rdCells_size (s : RSt) (h : s.l.length = 128) : (rdCells s).size = 130 := by simp [rdCells, h]
theorem rdCells_at (s : RSt) (h : s.l.length = 128) : (rdCells s)[128]? = some (.int .i64 s.at_) := by
  unfold rdCells
  rw [List.getElem?_toArray, List.getElem?_append_right (by simp [h]), bvs_length, h]; rfl
theorem rdCells_err (s : RSt) (h : s.l.length = 128) : (rdCells s)[129]? = some (.int .i64 s.e) := by
  unfold rdCells
  rw [List.getElem?_toArray, List.getElem?_append_right (by simp [h]), bvs_length, h]; rfl
theorem RdrAt.c128 {w : World} {g : Nat} {s : RSt} (h : RdrAt w g s) : w.cell? ⟨g, 128, none⟩ = some (.int .i64 s.at_) := by rw [cell_row h.2.2, rdCells_at _ h.1]
theorem RdrAt.c129 {w : World} {g : Nat} {s : RSt} (h : RdrAt w g s) : w.cell? ⟨g, 129, none⟩ = some (.int .i64 s.e) := by rw [cell_row h.2.2, rdCells_err _ h.1]
theorem RdrAt.rdb {w : World} {g : Nat} {s : RSt} (h : RdrAt w g s) : RdB w g 0 s.l := fun i hi => by
  rw [Nat.zero_add, cell_row h.2.2]
  unfold rdCells
  rw [List.getElem?_toArray, List.getElem?_append_left (by simpa using hi), bvs_get _ _ hi]
theorem rdCells_setE (s : RSt) (h : s.l.length = 128) (e : Int) : (rdCells s).setIfInBounds 129 (.int .i64 e) = rdCells ⟨s.l, s.at_, e⟩ := by
  unfold rdCells
  rw [List.setIfInBounds_toArray, List.set_append_right _ _ (by simp [h]), bvs_length, h]; rfl
theorem rdCells_setA (s : RSt) (h : s.l.length = 128) (a : Nat) : (rdCells s).setIfInBounds 128 (.int .i64 a) = rdCells ⟨s.l, a, s.e⟩ := by
  unfold rdCells
  rw [List.setIfInBounds_toArray, List.set_append_right _ _ (by simp [h]), bvs_length, h]; rfl
/-- What a number read does and answers. -/
def rNum (s : RSt) (width : Int) : RSt × Nat := if s.e = 0 then (if fitsB 128 s.at_ width then (⟨s.l, s.at_ + width.toNat, 0⟩, part s.l s.at_ width.toNat) else (⟨s.l, s.at_, 1⟩, 0)) else (s, 0)
def RdTo (w : World) (g : Nat) (s : RSt) (v : Value) (e : Ending) (w' : World) : Prop := e = .returned v ∧ RdrAt w' g s ∧ OnlyAt g w w'
set_option maxHeartbeats 1000000 in
set_option maxRecDepth 10000 in
theorem rdnum_bad (g : Nat) (s : RSt) (width : Int) (w : World) (he : s.e ≠ 0) (h : RdrAt w g s) :
    Calls Try.prog 111 #[.pointer (some ⟨g, 0, none⟩), .int .i64 width] w (RdTo w g s (.int .u64 0)) := by
  have c2 := h.c129
  have hne : (s.e == 0) = false := by simpa using he
  have H := Lib.hid h
  clear h he
  go_enter Try.func111, Try.ntmps111
  go_wp2
  go_ret
  exact ⟨rfl, H.out, OnlyAt.refl _ _⟩
set_option maxHeartbeats 1000000 in
set_option maxRecDepth 10000 in
theorem rdnum_ok (g : Nat) (l : List UInt8) (a : Nat) (width : Int) (w : World) (h : RdrAt w g ⟨l, a, 0⟩) (hp : fitsB 128 a width = true) :
    Calls Try.prog 111 #[.pointer (some ⟨g, 0, none⟩), .int .i64 width] w (RdTo w g ⟨l, a + width.toNat, 0⟩ (.int .u64 (part l a width.toNat))) := by
  have hl : l.length = 128 := h.1
  obtain ⟨q1, q2, q3, q4⟩ := (fitsB_iff _ _ _).1 hp
  obtain ⟨k, rfl⟩ := Int.eq_ofNat_of_zero_le (show 0 ≤ width by omega)
  have c1 : w.cell? ⟨g, 128, none⟩ = some (.int .i64 a) := h.c128
  have c2 : w.cell? ⟨g, 129, none⟩ = some (.int .i64 0) := h.c129
  have hN : getN l a k = part l a k := by unfold getN; rw [hl, hp]; rfl
  have hE : getE l.length a k = 0 := by unfold getE; rw [hl, hp]; rfl
  have hb : Byt w.drew (.slice (some ⟨g, 0, none⟩) 128 128) l := .inr ⟨g, 0, 128, by rw [hl], by omega, by decide, h.rdb⟩
  have f1 := free_row h.2.2 128
  have f2 := free_row h.2.2 129
  have HN := Lib.hid hN
  have HE := Lib.hid hE
  have HB := Lib.hid hb
  have HH := Lib.hid h
  have HL := Lib.hid hl
  clear h hp hE hN hb hl
  go_enter Try.func111, Try.ntmps111
  go_wp2
  go_region_held3 (fun w' => w'.cell? ⟨g, 128, none⟩ = some (.int .i64 a)) (first | exact c1)
    ((go_at_call 60; refine (get_any _ l a k w.drew (by rw [HL.out]; decide) HB.out).mono ?_; rintro e w1 ⟨rfl, rfl⟩; rw [HE.out, HN.out]))
  go_wp2
  go_ret
  have hh := HH.out.2.2
  have hl : l.length = 128 := HL.out
  have e1 : (w.setCell ⟨g, 129, none⟩ (.int .i64 0)).setCell ⟨g, 128, none⟩ (.int .i64 ((a : Int) + (k : Int))) = w.setRow g (rdCells ⟨l, a + k, 0⟩) := by
    rw [setCell_row hh, setRow_setCell hh, rdCells_setE ⟨l, a, 0⟩ hl, ← Int.natCast_add, rdCells_setA ⟨l, a, 0⟩ hl]
  rw [e1, Int.toNat_natCast]
  exact ⟨rfl, ⟨hl, (show a + k ≤ 128 by omega), setRow_heap w g _ _ _ _ hh⟩, ((OnlyAt.refl g w).row _).drew⟩
set_option maxHeartbeats 1000000 in
set_option maxRecDepth 10000 in
theorem rdnum_no (g : Nat) (l : List UInt8) (a : Nat) (width : Int) (w : World) (h : RdrAt w g ⟨l, a, 0⟩) (hp : fitsB 128 a width = false) :
    Calls Try.prog 111 #[.pointer (some ⟨g, 0, none⟩), .int .i64 width] w (RdTo w g ⟨l, a, 1⟩ (.int .u64 0)) := by
  have hl : l.length = 128 := h.1
  have c1 : w.cell? ⟨g, 128, none⟩ = some (.int .i64 a) := h.c128
  have c2 : w.cell? ⟨g, 129, none⟩ = some (.int .i64 0) := h.c129
  have hN : getN l a width = 0 := by unfold getN; rw [hl, hp]; rfl
  have hE : getE l.length a width = 1 := by unfold getE; rw [hl, hp]; rfl
  have hb : Byt w.drew (.slice (some ⟨g, 0, none⟩) 128 128) l := .inr ⟨g, 0, 128, by rw [hl], by omega, by decide, h.rdb⟩
  have f1 := free_row h.2.2 128
  have f2 := free_row h.2.2 129
  have HN := Lib.hid hN
  have HE := Lib.hid hE
  have HB := Lib.hid hb
  have HH := Lib.hid h
  have HL := Lib.hid hl
  clear h hp hE hN hb hl
  go_enter Try.func111, Try.ntmps111
  go_wp2
  go_region_held3 (fun w' => w'.cell? ⟨g, 128, none⟩ = some (.int .i64 a)) (first | exact c1)
    ((go_at_call 60; refine (get_any _ l a width w.drew (by rw [HL.out]; decide) HB.out).mono ?_; rintro e w1 ⟨rfl, rfl⟩; rw [HE.out, HN.out]))
  go_wp2
  go_ret
  have hh := HH.out.2.2
  have hl : l.length = 128 := HL.out
  have e1 : w.setCell ⟨g, 129, none⟩ (.int .i64 1) = w.setRow g (rdCells ⟨l, a, 1⟩) := by
    rw [setCell_row hh, rdCells_setE ⟨l, a, 0⟩ hl]
  rw [e1]
  exact ⟨rfl, ⟨hl, HH.out.2.1, setRow_heap w g _ _ _ _ hh⟩, ((OnlyAt.refl g w).row _).drew⟩
/-- A number read. -/
theorem rdnum_any (g : Nat) (s : RSt) (width : Int) (w : World) (h : RdrAt w g s) :
    Calls Try.prog 111 #[.pointer (some ⟨g, 0, none⟩), .int .i64 width] w (RdTo w g (rNum s width).1 (.int .u64 (rNum s width).2)) := by
  obtain ⟨l, a, e⟩ := s
  by_cases he : e = 0
  · subst he
    cases hp : fitsB 128 a width with
    | true =>
      have : rNum ⟨l, a, 0⟩ width = (⟨l, a + width.toNat, 0⟩, part l a width.toNat) := by simp [rNum, hp]
      rw [this]; exact rdnum_ok g l a width w h hp
    | false =>
      have : rNum ⟨l, a, 0⟩ width = (⟨l, a, 1⟩, 0) := by simp [rNum, hp]
      rw [this]; exact rdnum_no g l a width w h hp
  · have : rNum ⟨l, a, e⟩ width = (⟨l, a, e⟩, 0) := by simp [rNum, he]
    rw [this]; exact rdnum_bad g ⟨l, a, e⟩ width w he h
/-! ### Left, Bytes -/
set_option maxHeartbeats 1000000 in
theorem rdleft_any (g : Nat) (s : RSt) (w : World) (h : RdrAt w g s) :
    Calls Try.prog 149 #[.pointer (some ⟨g, 0, none⟩)] w fun e w' => e = .returned (.int .i64 (128 - (s.at_ : Int))) ∧ w = w' := by
  obtain ⟨l, a, e⟩ := s
  have c1 : w.cell? ⟨g, 128, none⟩ = some (.int .i64 a) := h.c128
  have ha : a ≤ 128 := h.2.1
  have hw : wrap64 (128 - (a : Int)) = 128 - (a : Int) := by rw [← i64_w]; exact IntWalk.i64_in _ (by omega)
  clear h
  go_enter Try.func149, Try.ntmps149
  go_wp2
  go_ret
  exact ⟨rfl, rfl⟩
def rBytes (s : RSt) (size : Int) : RSt × List UInt8 := if s.e = 0 then (if size < 0 ∨ size > 128 - (s.at_ : Int) then (⟨s.l, s.at_, 1⟩, []) else (⟨s.l, s.at_ + size.toNat, 0⟩, (s.l.drop s.at_).take size.toNat)) else (s, [])
/-- What a reader hands back in bytes: a row of its own; but for it only the reader is another one. -/
def RdOwn (w : World) (g : Nat) (s : RSt) (r : List UInt8) (e : Ending) (w' : World) : Prop := ∃ v, e = .returned v ∧ w'.ownsRow w.heap.size 5 1 v r.length (bvs r) ∧ RdrAt w' g s ∧ w.grownBy w' (some g)
theorem own_nil (w : World) (base e : Nat) : w.ownsRow base e 1 (.slice none 0 0) 0 (bvs []) := ⟨by simp [bvs], .inl ⟨rfl, rfl⟩⟩
set_option maxHeartbeats 1000000 in
set_option maxRecDepth 10000 in
theorem rdbytes_bad (g : Nat) (s : RSt) (size : Int) (w : World) (he : s.e ≠ 0) (h : RdrAt w g s) :
    Calls Try.prog 112 #[.pointer (some ⟨g, 0, none⟩), .int .i64 size] w (RdOwn w g s []) := by
  have c2 := h.c129
  have hne : (s.e == 0) = false := by simpa using he
  have H := Lib.hid h
  clear h he
  go_enter Try.func112, Try.ntmps112
  go_wp2
  go_ret
  exact ⟨_, rfl, own_nil _ _ _, H.out, World.grownBy.refl _ _⟩
set_option maxHeartbeats 1000000 in
set_option maxRecDepth 10000 in
theorem rdbytes_no (g : Nat) (l : List UInt8) (a : Nat) (size : Int) (w : World) (h : RdrAt w g ⟨l, a, 0⟩) (hs : size < 0 ∨ size > 128 - (a : Int)) :
    Calls Try.prog 112 #[.pointer (some ⟨g, 0, none⟩), .int .i64 size] w (RdOwn w g ⟨l, a, 1⟩ []) := by
  have hl : l.length = 128 := h.1
  have c2 : w.cell? ⟨g, 129, none⟩ = some (.int .i64 0) := h.c129
  have f2 := free_row h.2.2 129
  have H := Lib.hid h
  have HL := Lib.hid hl
  clear h hl
  have hcut : ∀ K : Prop, (size < 0 → K) → (0 ≤ size → 128 - (a : Int) < size → K) → K := fun K x y => by
    by_cases k1 : size < 0
    · exact x k1
    · exact y (by omega) (by omega)
  clear hs
  refine hcut _ ?_ ?_ <;> clear hcut <;> intros
  all_goals
    go_enter Try.func112, Try.ntmps112
    go_wp2_with (go_at_call 149; refine (rdleft_any g ⟨l, a, 0⟩ _ H.out).mono ?_; rintro e w1 ⟨rfl, rfl⟩)
    go_ret
    have e1 : w.setCell ⟨g, 129, none⟩ (.int .i64 1) = w.setRow g (rdCells ⟨l, a, 1⟩) := by
      rw [setCell_row H.out.2.2, rdCells_setE ⟨l, a, 0⟩ HL.out]
    rw [e1]
    exact ⟨_, rfl, own_nil _ _ _, ⟨HL.out, H.out.2.1, setRow_heap w g _ _ _ _ H.out.2.2⟩, ((OnlyAt.refl g w).row _).1⟩
theorem grownBy_then {a b c : World} {r : Option Nat} (h : a.grownBy b r) (k : b.grownBy c none) : a.grownBy c r :=
  ⟨k.os.trans h.os, k.tape.trans h.tape, k.output.trans h.output, Nat.le_trans h.size k.size, fun j hj hne => (k.block j (Nat.lt_of_lt_of_le hj h.size) (by simp)).trans (h.block j hj hne)⟩
theorem RdrAt.grown {w w' : World} {g : Nat} {s : RSt} (h : RdrAt w g s) (k : w.grownBy w' none) : RdrAt w' g s :=
  ⟨h.1, h.2.1, (k.block g (Array.getElem?_eq_some_iff.1 h.2.2).1 (by simp)).trans h.2.2⟩
theorem rd_cut {w : World} {g a k : Nat} {cs : List Value} (h : Rd w (.slice (some ⟨g, 0 + a, none⟩) k (128 - a)) 1 k cs) (hk : a + k ≤ 128) :
    Rd w (.slice (some (if 128 = a then ⟨g, 0, none⟩ else ⟨g, a, none⟩)) (((a : Int) + (k : Int)).toNat - a) (128 - a)) 1 k cs := by
  rw [show ((a : Int) + (k : Int)).toNat - a = k by omega]
  by_cases h1 : 128 = a
  · obtain rfl : k = 0 := by omega
    have hc : cs = [] := List.eq_nil_of_length_eq_zero (by have := h.1; simpa using this)
    subst hc
    rw [if_pos h1]
    exact ⟨rfl, .inr ⟨_, _, rfl, fun j u hu => by simp at hu⟩⟩
  · rw [if_neg h1]; rw [Nat.zero_add] at h; exact h
set_option maxHeartbeats 1000000 in
set_option maxRecDepth 10000 in
theorem rdbytes_ok (g : Nat) (l : List UInt8) (a k : Nat) (w : World) (h : RdrAt w g ⟨l, a, 0⟩) (hk : a + k ≤ 128) :
    Calls Try.prog 112 #[.pointer (some ⟨g, 0, none⟩), .int .i64 k] w (RdOwn w g ⟨l, a + k, 0⟩ ((l.drop a).take k)) := by
  have hl : l.length = 128 := h.1
  have c1 : w.cell? ⟨g, 128, none⟩ = some (.int .i64 a) := h.c128
  have c2 : w.cell? ⟨g, 129, none⟩ = some (.int .i64 0) := h.c129
  have f1 := free_row h.2.2 128
  have e1 : w.setCell ⟨g, 128, none⟩ (.int .i64 ((a : Int) + (k : Int))) = w.setRow g (rdCells ⟨l, a + k, 0⟩) := by
    rw [setCell_row h.2.2, ← Int.natCast_add, rdCells_setA ⟨l, a, 0⟩ hl]
  have H2 : RdrAt (w.setRow g (rdCells ⟨l, a + k, 0⟩)) g ⟨l, a + k, 0⟩ := ⟨hl, hk, setRow_heap w g _ _ _ _ h.2.2⟩
  have hg2 : w.grownBy (w.setRow g (rdCells ⟨l, a + k, 0⟩)) (some g) := ((OnlyAt.refl g w).row _).1
  have hz2 : (w.setRow g (rdCells ⟨l, a + k, 0⟩)).heap.size = w.heap.size := setRow_size _ _ _
  obtain ⟨w2, hw2⟩ : ∃ w2, w2 = w.setRow g (rdCells ⟨l, a + k, 0⟩) := ⟨_, rfl⟩
  rw [← hw2] at e1 H2 hg2 hz2
  clear hw2
  have c3 : w2.drew.cell? ⟨g, 128, none⟩ = some (.int .i64 ((a : Int) + (k : Int))) := by have := H2.c128; rw [show ((⟨l, a + k, 0⟩ : RSt).at_ : Int) = (a : Int) + (k : Int) by simp] at this; exact this
  have hrd : Rd w2.drew (.slice (some ⟨g, 0 + a, none⟩) k (128 - a)) 1 k (bvs ((l.drop a).take k)) := ⟨by simp; omega, .inr ⟨_, _, rfl, fun j u hu => by
    have hj : j < k := by have := (List.getElem?_eq_some_iff.1 hu).1; simp at this; omega
    have hq := (H2.rdb.sub a k (by rw [hl]; exact hk)) j (by simp; omega)
    rw [add_at]
    refine Eq.trans hq ?_
    rw [← hu, bvs_get _ _ (by simp; omega)]⟩⟩
  have hin := h.2.2
  have HE := Lib.hid e1
  have H2' := Lib.hid H2
  have HG2 := Lib.hid hg2
  have HZ2 := Lib.hid hz2
  have HRD := Lib.hid hrd
  have HL := Lib.hid h
  clear e1 H2 hg2 hz2 hrd h hin
  have hw1 : wrap64 (128 - (a : Int)) = 128 - (a : Int) := by rw [← i64_w]; exact IntWalk.i64_in _ (by omega)
  have hw2 : wrap64 ((a : Int) + (k : Int)) = (a : Int) + (k : Int) := by rw [← i64_w]; exact IntWalk.i64_in _ (by omega)
  have hb1 : ¬ ((k : Int) < 0) := by omega
  have hb2 : ¬ (128 - (a : Int) < (k : Int)) := by omega
  go_enter Try.func112, Try.ntmps112
  go_wp2_with (go_at_call 149; refine (rdleft_any g ⟨l, a, 0⟩ _ HL.out).mono ?_; rintro e w1 ⟨rfl, rfl⟩)
  rw [HE.out]
  clear hw1 hw2
  have hw3 : IntKind.i64.wrap (a : Int) = (a : Int) := IntWalk.i64_in _ (by omega)
  have z1 : (0 : Int) ≤ (a : Int) := by omega
  have z2 : (a : Int) ≤ (a : Int) + (k : Int) := by omega
  have z3 : (a : Int) + (k : Int) ≤ 128 := by omega
  go_region_held3 (fun w' => w'.cell? ⟨g, 128, none⟩ = some (.int .i64 ((a : Int) + (k : Int)))) (first | exact c3 | exact hd3)
    ((refine step_append_rd rfl (.const (.slice none 0 0)) (.tmp 49) 118 rfl w.heap.size 5 (.int .u8 0) 1 1 Try.underlying118 infoU8 rfl (by decide) _ 0 [] rfl (own_nil _ _ _) _ k (bvs ((l.drop a).take k)) rfl ?hu (bvs_oneCell _) ?c2 (by decide) ?c3 ?_; (case hu => (have hq := rd_cut HRD.out hk; simpa [Act.eval] using hq)); (case c2 => omega); (case c3 => rw [← HZ2.out]; exact Nat.le_refl _); intro v3 w3 hown3 hbel3 hg3; have hd3 : w3.cell? ⟨g, 128, none⟩ = some (.int .i64 ((a : Int) + (k : Int))) := (RdrAt.grown (w := w2.drew) H2'.out hg3).c128.trans (by simp)))
  go_wp2
  all_goals
    go_ret
    simp only [List.nil_append, Nat.zero_add] at hown3
    have hlen : ((l.drop a).take k).length = k := by simp; have := HL.out.1; simp at this; omega
    refine ⟨_, rfl, ?_, RdrAt.grown (w := w2.drew) H2'.out hg3, grownBy_then HG2.out (grownBy_then (a := w2) (b := w2.drew) ⟨rfl, rfl, rfl, Nat.le_refl _, fun _ _ _ => rfl⟩ hg3)⟩
    rw [hlen]; exact hown3
/-- Bytes read. -/
theorem rdbytes_any (g : Nat) (s : RSt) (size : Int) (w : World) (h : RdrAt w g s) :
    Calls Try.prog 112 #[.pointer (some ⟨g, 0, none⟩), .int .i64 size] w (RdOwn w g (rBytes s size).1 (rBytes s size).2) := by
  obtain ⟨l, a, e⟩ := s
  by_cases he : e = 0
  · subst he
    by_cases hs : size < 0 ∨ size > 128 - (a : Int)
    · have : rBytes ⟨l, a, 0⟩ size = (⟨l, a, 1⟩, []) := by simp [rBytes]; omega
      rw [this]; exact rdbytes_no g l a size w h hs
    · obtain ⟨k, rfl⟩ := Int.eq_ofNat_of_zero_le (show 0 ≤ size by omega)
      have : rBytes ⟨l, a, 0⟩ (k : Int) = (⟨l, a + k, 0⟩, (l.drop a).take k) := by
        unfold rBytes; rw [if_pos rfl, if_neg hs]; simp
      rw [this]; exact rdbytes_ok g l a k w h (by omega)
  · have : rBytes ⟨l, a, e⟩ size = (⟨l, a, e⟩, []) := by simp [rBytes, he]
    rw [this]; exact rdbytes_bad g ⟨l, a, e⟩ size w he h
end Go.Proofs.Ytcpfafmkhegckaa
/-
  Rows of equal length in a block; what a call may have changed. No program is in sight.
-/
namespace Go.Proofs.Ytcpfafmkhegckaa
open Go.RowKit
set_option linter.unusedVariables false
set_option linter.unusedSimpArgs false
section
variable {α : Type} {f : α → List Value} {k : Nat}
/-! ### Rows of k cells, one behind the other -/
def rowsOf (f : α → List Value) (L : List α) : List Value := L.flatMap f
theorem rowsOf_nil : rowsOf f [] = [] := rfl
theorem rowsOf_cons (x : α) (L : List α) : rowsOf f (x :: L) = f x ++ rowsOf f L := rfl
theorem rowsOf_append (L M : List α) : rowsOf f (L ++ M) = rowsOf f L ++ rowsOf f M := by simp [rowsOf]
theorem rowsOf_snoc (L : List α) (x : α) : rowsOf f (L ++ [x]) = rowsOf f L ++ f x := by simp [rowsOf]
theorem rowsOf_len (hk : ∀ x, (f x).length = k) (L : List α) : (rowsOf f L).length = L.length * k := by
  induction L with
  | nil => simp [rowsOf]
  | cons x L ih => rw [rowsOf_cons, List.length_append, hk, ih, List.length_cons, Nat.add_mul]; omega
theorem rowsOf_get (hk : ∀ x, (f x).length = k) : ∀ (L : List α) (i j : Nat) (x : α), L[i]? = some x → j < k → (rowsOf f L)[i * k + j]? = (f x)[j]?
  | [], i, j, x, h, hj => by simp at h
  | y :: L, 0, j, x, h, hj => by
    obtain rfl : y = x := by simpa using h
    rw [rowsOf_cons, Nat.zero_mul, Nat.zero_add, List.getElem?_append_left (by rw [hk]; exact hj)]
  | y :: L, i + 1, j, x, h, hj => by
    rw [rowsOf_cons, show (i + 1) * k + j = k + (i * k + j) by rw [Nat.add_mul]; omega, List.getElem?_append_right (by rw [hk]; omega), hk, Nat.add_sub_cancel_left]
    exact rowsOf_get hk L i j x (by simpa using h) hj
theorem rowsOf_one (h : ∀ x, ∀ u ∈ f x, u.oneCell' = true) (L : List α) : ∀ u ∈ rowsOf f L, u.oneCell' = true := by
  intro u hu
  obtain ⟨x, _, hx⟩ := List.mem_flatMap.1 hu
  exact h x u hx
theorem rowsOf_take (hk : ∀ x, (f x).length = k) (L : List α) (n : Nat) : (rowsOf f L).take (n * k) = rowsOf f (L.take n) := by
  by_cases hn : n ≤ L.length
  · conv => lhs; rw [← List.take_append_drop n L, rowsOf_append]
    rw [List.take_append_of_le_length (by rw [rowsOf_len hk, List.length_take, Nat.min_eq_left hn]; exact Nat.le_refl _), List.take_of_length_le (by rw [rowsOf_len hk, List.length_take, Nat.min_eq_left hn]; exact Nat.le_refl _)]
  · rw [List.take_of_length_le (l := L) (by omega), List.take_of_length_le (by rw [rowsOf_len hk]; exact Nat.mul_le_mul_right _ (by omega))]
theorem rowsOf_drop (hk : ∀ x, (f x).length = k) (L : List α) (n : Nat) : (rowsOf f L).drop (n * k) = rowsOf f (L.drop n) := by
  by_cases hn : n ≤ L.length
  · conv => lhs; rw [← List.take_append_drop n L, rowsOf_append]
    rw [List.drop_append_of_le_length (by rw [rowsOf_len hk, List.length_take, Nat.min_eq_left hn]; exact Nat.le_refl _), List.drop_eq_nil_of_le (by rw [rowsOf_len hk, List.length_take, Nat.min_eq_left hn]; exact Nat.le_refl _), List.nil_append]
  · rw [show L.drop n = [] from List.drop_eq_nil_of_le (by omega), List.drop_eq_nil_of_le (by rw [rowsOf_len hk]; exact Nat.mul_le_mul_right _ (by omega))]; rfl
theorem rowsOf_splice (hk : ∀ x, (f x).length = k) (L : List α) (i : Nat) (x : α) (hi : i < L.length) : splice (rowsOf f L) (i * k) (f x) = rowsOf f (L.set i x) := by
  unfold splice
  rw [rowsOf_take hk, hk, show i * k + k = (i + 1) * k by rw [Nat.add_mul]; omega, rowsOf_drop hk, List.set_eq_take_append_cons_drop, if_pos hi, rowsOf_append, rowsOf_cons]
/-- One after the other, the cells of one row are set. -/
def setAt (cs : List Value) (o : Nat) : List Value → List Value
  | [] => cs
  | v :: l => setAt (cs.set o v) (o + 1) l
theorem setAt_eq : ∀ (l cs : List Value) (o : Nat), o + l.length ≤ cs.length → setAt cs o l = splice cs o l
  | [], cs, o, h => by simp [setAt, splice_nil]
  | v :: l, cs, o, h => by
    rw [setAt, setAt_eq l _ _ (by simp at h ⊢; omega)]
    simp only [List.length_cons] at h
    unfold splice
    rw [List.take_set, List.drop_set_of_lt (by omega)]
    rw [List.take_succ_eq_append_getElem (by omega)]
    have h1 : ((cs.take o) ++ [cs[o]]).set o v = cs.take o ++ [v] := by
      rw [List.set_append_right _ _ (by simp; omega)]
      simp [show o - min o cs.length = 0 by omega]
    rw [h1]
    simp only [List.append_assoc, List.cons_append, List.nil_append, List.length_cons]
    rw [show o + 1 + l.length = o + (l.length + 1) by omega]
theorem rowsOf_setAt (hk : ∀ x, (f x).length = k) (L : List α) (i : Nat) (x : α) (hi : i < L.length) : setAt (rowsOf f L) (i * k) (f x) = rowsOf f (L.set i x) := by
  rw [setAt_eq _ _ _ (by rw [hk, rowsOf_len hk, show i * k + k = (i + 1) * k by rw [Nat.add_mul]; omega]; exact Nat.mul_le_mul_right _ hi), rowsOf_splice hk L i x hi]
/-! ### A block whose first cells are told -/
def RawAt (w : World) (g : Nat) (T : TypeId) (k n c : Nat) (cs : List Value) : Prop :=
  ∃ cur : Array Value, w.heap[g]? = some (.cells cur T (0, 0)) ∧ cur.size = c * k ∧ n ≤ c ∧ c ≤ maxLen ∧ cur.toList.take (n * k) = cs
theorem RawAt.lt {w : World} {g k n c : Nat} {T : TypeId} {cs : List Value} (h : RawAt w g T k n c cs) : g < w.heap.size := (Array.getElem?_eq_some_iff.1 h.choose_spec.1).1
theorem RawAt.move {w w' : World} {g k n c : Nat} {T : TypeId} {cs : List Value} (h : RawAt w g T k n c cs) (hb : w'.heap[g]? = w.heap[g]?) : RawAt w' g T k n c cs := by
  obtain ⟨cur, h1, h2⟩ := h
  exact ⟨cur, hb.trans h1, h2⟩
theorem RawAt.cell {w : World} {g k n c : Nat} {T : TypeId} {cs : List Value} (h : RawAt w g T k n c cs) (p : Nat) (hp : p < n * k) : w.cell? ⟨g, p, none⟩ = cs[p]? := by
  obtain ⟨cur, h1, h2, h3, h4, rfl⟩ := h
  rw [cell_row h1, List.getElem?_take_of_lt hp]; simp
theorem RawAt.free {w : World} {g k n c : Nat} {T : TypeId} {cs : List Value} (h : RawAt w g T k n c cs) (p : Nat) : w.frozen? ⟨g, p, none⟩ = false := by
  obtain ⟨cur, h1, _⟩ := h
  exact free_row h1 p
theorem RawAt.set {w : World} {g k n c : Nat} {T : TypeId} {cs : List Value} (h : RawAt w g T k n c cs) (p : Nat) (v : Value) : RawAt (w.setCell ⟨g, p, none⟩ v) g T k n c (cs.set p v) := by
  obtain ⟨cur, h1, h2, h3, h4, rfl⟩ := h
  rw [setCell_row h1]
  refine ⟨cur.setIfInBounds p v, setRow_heap _ _ _ _ _ _ h1, by simpa using h2, h3, h4, ?_⟩
  rw [Array.toList_setIfInBounds, List.take_set]
/-- A block whose first cells are the rows of a list. -/
def ArrAt (w : World) (g : Nat) (T : TypeId) (f : α → List Value) (k : Nat) (L : List α) (c : Nat) : Prop := RawAt w g T k L.length c (rowsOf f L)
theorem ArrAt.cell {w : World} {g c : Nat} {T : TypeId} {L : List α} (hk : ∀ x, (f x).length = k) (h : ArrAt w g T f k L c) (i j : Nat) (x : α) (hi : L[i]? = some x) (hj : j < k) : w.cell? ⟨g, i * k + j, none⟩ = (f x)[j]? := by
  have hlt : i < L.length := (List.getElem?_eq_some_iff.1 hi).1
  rw [RawAt.cell h _ (by have : (i + 1) * k ≤ L.length * k := Nat.mul_le_mul_right _ hlt; rw [Nat.add_mul] at this; omega), rowsOf_get hk L i j x hi hj]
theorem ArrAt.of_raw {w : World} {g c n : Nat} {T : TypeId} {L : List α} {cs : List Value} (h : RawAt w g T k n c cs) (hn : n = L.length) (hc : cs = rowsOf f L) : ArrAt w g T f k L c := by subst hn; subst hc; exact h
theorem ArrAt.own {w : World} {g c base : Nat} {T : TypeId} {L : List α} (hk : ∀ x, (f x).length = k) (h : ArrAt w g T f k L c) (hb : base ≤ g) : w.ownsRow base T k (.slice (some ⟨g, 0, none⟩) L.length c) L.length (rowsOf f L) := by
  obtain ⟨cur, h1, h2, h3, h4, h5⟩ := h
  exact ⟨rowsOf_len hk L, .inr ⟨g, c, cur, rfl, hb, h1, h3, h4, h2, h5⟩⟩
theorem ArrAt.of_own {w : World} {g c base n : Nat} {T : TypeId} {L : List α} (h : w.ownsRow base T k (.slice (some ⟨g, 0, none⟩) n c) n (rowsOf f L)) (hn : n = L.length) : ArrAt w g T f k L c ∧ base ≤ g := by
  subst hn
  rcases h.2 with ⟨h1, _⟩ | ⟨g', cap, cur, h1, h2, h3, h4, h5, h6, h7⟩
  · cases h1
  · cases h1
    exact ⟨⟨cur, h3, h6, h4, h5, h7⟩, h2⟩
end
theorem made_rows {α : Type} {k : Nat} (f : α → List Value) (hk : ∀ x, (f x).length = k) (x : α) (z : Array Value) (n : Nat) (hz : z.toList = f x) : (madeCells z (n * k)).toList = rowsOf f (List.replicate n x) := by
  have hzs : z.size = k := by rw [← hk x, ← hz]; simp
  have hl := rowsOf_len hk (List.replicate n x)
  rw [List.length_replicate] at hl
  apply List.ext_getElem?
  intro p
  by_cases hp : p < n * k
  · have hk0 : 0 < k := by
      rcases Nat.eq_zero_or_pos k with h | h
      · rw [h, Nat.mul_zero] at hp; omega
      · exact h
    have hm : p % k < k := Nat.mod_lt _ hk0
    have hd : p / k < n := Nat.div_lt_of_lt_mul (by rw [Nat.mul_comm]; exact hp)
    have hpd : p = p / k * k + p % k := by have := Nat.div_add_mod p k; rw [Nat.mul_comm] at this; exact this.symm
    have hr : (rowsOf f (List.replicate n x))[p]? = (f x)[p % k]? := by
      conv => lhs; rw [hpd]
      exact rowsOf_get hk _ _ _ x (by rw [List.getElem?_replicate, if_pos hd]) hm
    rw [hr, ← hz]
    unfold madeCells
    rw [Array.getElem?_toList, Array.getElem?_map, Array.getElem?_range, if_pos hp, Array.getElem?_toList]
    simp only [Option.map_some, hzs]
    rw [getElem!_pos z (p % k) (by rw [hzs]; exact hm), Array.getElem?_eq_getElem (by rw [hzs]; exact hm)]
  · rw [List.getElem?_eq_none (by rw [Array.length_toList, size_madeCells]; omega), List.getElem?_eq_none (by rw [hl]; omega)]
/-! ### What a call may have changed: new blocks, and those of F -/
structure Keep (F : Nat → Prop) (w w' : World) : Prop where
  os : w'.os = w.os
  tape : w'.tape = w.tape
  output : w'.output = w.output
  size : w.heap.size ≤ w'.heap.size
  block : ∀ k, k < w.heap.size → ¬ F k → w'.heap[k]? = w.heap[k]?
theorem Keep.refl (F : Nat → Prop) (w : World) : Keep F w w := ⟨rfl, rfl, rfl, Nat.le_refl _, fun _ _ _ => rfl⟩
theorem Keep.trans {F : Nat → Prop} {a b c : World} (h : Keep F a b) (k : Keep F b c) : Keep F a c :=
  ⟨k.os.trans h.os, k.tape.trans h.tape, k.output.trans h.output, Nat.le_trans h.size k.size, fun i hi hF => (k.block i (Nat.lt_of_lt_of_le hi h.size) hF).trans (h.block i hi hF)⟩
/-- Those of the second that lie in blocks that the first has made are no matter. -/
theorem Keep.trans' {F G : Nat → Prop} {a b c : World} (h : Keep F a b) (k : Keep G b c) (hG : ∀ i, i < a.heap.size → G i → F i) : Keep F a c :=
  ⟨k.os.trans h.os, k.tape.trans h.tape, k.output.trans h.output, Nat.le_trans h.size k.size, fun i hi hF => (k.block i (Nat.lt_of_lt_of_le hi h.size) (fun g => hF (hG i hi g))).trans (h.block i hi hF)⟩
theorem Keep.mono {F G : Nat → Prop} {a b : World} (h : Keep F a b) (hFG : ∀ k, F k → G k) : Keep G a b := ⟨h.os, h.tape, h.output, h.size, fun k hk hG => h.block k hk (fun hF => hG (hFG k hF))⟩
theorem Keep.of_below {F : Nat → Prop} {a b : World} (h : Below a.heap.size a b) : Keep F a b := ⟨h.os, h.tape, h.output, h.size, fun k hk _ => h.block k hk⟩
theorem Keep.below {F : Nat → Prop} {a b : World} {B : Nat} (h : Keep F a b) (hF : ∀ k, F k → B ≤ k) (hB : B ≤ a.heap.size) : Below B a b := ⟨h.os, h.tape, h.output, h.size, fun k hk => h.block k (by omega) (fun f => by have := hF k f; omega)⟩
theorem Keep.drew {F : Nat → Prop} {a b : World} (h : Keep F a b) : Keep F a b.drew := ⟨h.os, h.tape, h.output, h.size, h.block⟩
theorem Keep.drewN {F : Nat → Prop} {a b : World} (h : Keep F a b) (n : Nat) : Keep F a (b.drewN n) := ⟨h.os, h.tape, h.output, h.size, h.block⟩
theorem Keep.setCell {F : Nat → Prop} {a b : World} (h : Keep F a b) (g o : Nat) (v : Value) (hg : F g) : Keep F a (b.setCell ⟨g, o, none⟩ v) :=
  ⟨h.os, h.tape, h.output, by simpa [World.setCell] using h.size, fun k hk hF => (Below.heap_setCell b ⟨g, o, none⟩ v k (fun e => hF (by subst e; exact hg))).trans (h.block k hk hF)⟩
theorem Keep.cell {F : Nat → Prop} {a b : World} (h : Keep F a b) {p : Addr} {v : Value} (hc : a.cell? p = some v) (hF : ¬ F p.block) : b.cell? p = some v := by
  have := h.block p.block (World.block_lt_of_cell? a p hc) hF
  rw [World.cell?_of_block this]; exact hc
theorem Keep.heap {F : Nat → Prop} {a b : World} (h : Keep F a b) {g : Nat} {o : Obj} (hc : a.heap[g]? = some o) (hF : ¬ F g) : b.heap[g]? = some o := (h.block g (Array.getElem?_eq_some_iff.1 hc).1 hF).trans hc
theorem RawAt.keep {F : Nat → Prop} {w w' : World} {g k n c : Nat} {T : TypeId} {cs : List Value} (h : RawAt w g T k n c cs) (hk : Keep F w w') (hF : ¬ F g) : RawAt w' g T k n c cs := h.move (hk.block g h.lt hF)
theorem RawAt.below {w w' : World} {g k n c : Nat} {T : TypeId} {cs : List Value} (h : RawAt w g T k n c cs) (hb : Below w.heap.size w w') : RawAt w' g T k n c cs := h.move (hb.block g h.lt)
theorem new_heap (w : World) (o : Obj) : (w.alloc o).heap[w.heap.size]? = some o := heap_alloc_new w o
theorem old_heap {w w' : World} {g : Nat} {o : Obj} (h : w.heap[g]? = some o) (hb : Below w.heap.size w w') : w'.heap[g]? = some o := (hb.block g (Array.getElem?_eq_some_iff.1 h).1).trans h
end Go.Proofs.Ytcpfafmkhegckaa
/-
  What came in, opened: kind by kind.
-/
namespace Go.Proofs.Ytcpfafmkhegckaa
open Go.ChangeShapes Go.WideShapes Go.ChangeAt Go.RowKit Go.Deep
set_option linter.unusedVariables false
/-- A slice whose elements can be read: each a row of k cells. -/
def ReadAt {α : Type} (w : World) (A : Option Addr) (f : α → List Value) (k : Nat) (L : List α) : Prop :=
  L ≠ [] → ∃ b o, A = some ⟨b, o, none⟩ ∧ ∀ i x, L[i]? = some x → ∀ j, j < k → w.cell? ⟨b, o + i * k + j, none⟩ = (f x)[j]?
theorem ReadAt.below {α : Type} {w w' : World} {A : Option Addr} {f : α → List Value} {k : Nat} {L : List α} (hk : ∀ x, (f x).length = k) (h : ReadAt w A f k L) (hb : Below w.heap.size w w') : ReadAt w' A f k L := fun hne => by
  obtain ⟨b, o, h1, h2⟩ := h hne
  refine ⟨b, o, h1, fun i x hx j hj => ?_⟩
  have hc := h2 i x hx j hj
  rw [List.getElem?_eq_getElem (by rw [hk]; exact hj)] at hc ⊢
  rw [hb.cell (World.block_lt_of_cell? w _ hc)]; exact hc
section
variable {H : Type} {enc : TypeId × Value → H} {P : Program} {W : World} {base : Nat} {spare : Nat → Bool} {held : Bool}
variable {α β : Type}
/-- Whatever reads as this type has these cells. -/
def Good (enc : TypeId × Value → H) (P : Program) (W : World) (base : Nat) (spare : Nat → Bool) (held : Bool) (t : TypeId) (f : α → List Value) (good : α → Prop) : Prop :=
  ∀ n cs x, DataW.trod enc P W base spare held n t cs = some x → ∃ a, cs = f a ∧ good a
theorem good_int {t : TypeId} {k : IntKind} (h : P.underlying t = some (.int k)) : Good enc P W base spare held t (fun z : Int => [Value.int k z]) (fun z => (Lit.int k z).wf = true) := fun n cs x hx => by
  obtain ⟨z, hz, _, hw⟩ := DataW.trod_int h hx
  exact ⟨z, hz, hw⟩
theorem good_bool {t : TypeId} (h : P.underlying t = some .bool) : Good enc P W base spare held t (fun z : Bool => [Value.bool z]) (fun _ => True) := fun n cs x hx => by
  obtain ⟨z, hz, _⟩ := DataW.trod_bool h hx
  exact ⟨z, hz, trivial⟩
theorem Good.map {t : TypeId} {f : α → List Value} {good : α → Prop} {f' : β → List Value} {good' : β → Prop} (h : Good enc P W base spare held t f good) (hm : ∀ a, good a → ∃ b, f a = f' b ∧ good' b) : Good enc P W base spare held t f' good' := fun n cs x hx => by
  obtain ⟨a, rfl, ha⟩ := h n cs x hx
  obtain ⟨b, hb, hg⟩ := hm a ha
  exact ⟨b, hb, hg⟩
theorem addr_plain {x : Addr} {v : Value} (h : W.cell? (x.add 0) = some v) : ∃ b o, x = ⟨b, o, none⟩ := by
  obtain ⟨b, o, sp⟩ := x
  cases sp with
  | none => exact ⟨b, o, rfl⟩
  | some s =>
    have e1 : (⟨b, o, some s⟩ : Addr).add 0 = ⟨b, o, some s⟩ := by simp [Addr.add]
    rw [e1] at h
    unfold World.cell? at h
    split at h <;> simp at h
/-- What is known of a slice: its address, its capacity, its elements. -/
structure Sli (α : Type) where
  A : Option Addr
  c : Nat
  L : List α
def sliF (q : Sli α) : List Value := [.slice q.A q.L.length q.c]
theorem sliF_len (q : Sli α) : (sliF q).length = 1 := rfl
def SliGood (W : World) (f : α → List Value) (k : Nat) (good : α → Prop) (q : Sli α) : Prop := q.L.length ≤ q.c ∧ q.c ≤ maxLen ∧ (∀ a ∈ q.L, good a) ∧ ReadAt W q.A f k q.L
theorem good_slice {t e : TypeId} {f : α → List Value} {good : α → Prop} {k : Nat} (hu : P.underlying t = some (.slice e)) (hc : P.cellsOf e = k) (hk0 : 0 < k) (hk : ∀ x, (f x).length = k) (he : Good enc P W base spare held e f good) :
    Good enc P W base spare held t sliF (SliGood W f k good) := fun n cs x hx => by
  rcases open_slice hu hx with ⟨rfl, _⟩ | ⟨a, len, cap, m, n', D, Pl, rfl, hb, hl, hm, hmm, hxx, hel⟩
  · exact ⟨⟨none, 0, []⟩, rfl, Nat.le_refl _, by simp [maxLen], fun a h => by simp at h, fun h => absurd rfl h⟩
  · have hlm : len ≤ m := by rw [hmm]; split <;> omega
    have each : ∀ i, i < len → ∃ x : α, W.cells? base (a.add (i * k)) k = some (f x) ∧ good x := fun i hi => by
      obtain ⟨cs', h1, h2⟩ := hel i (by omega)
      obtain ⟨x, rfl, hg⟩ := he _ _ _ h2
      rw [hc] at h1
      exact ⟨x, h1, hg⟩
    by_cases h0 : len = 0
    · subst h0
      exact ⟨⟨some a, cap, []⟩, rfl, hl, hm, fun a h => by simp at h, fun h => absurd rfl h⟩
    · haveI : Inhabited α := ⟨(each 0 (by omega)).choose⟩
      obtain ⟨X, hX⟩ := choose_lt each
      have hc0 : W.cell? (a.add 0) = (f (X 0))[0]? := by
        have := (World.cells?_some (hX 0 (by omega)).1).2.2 0 hk0
        rw [Nat.zero_mul, add_add] at this
        exact this
      rw [List.getElem?_eq_getElem (by rw [hk]; exact hk0)] at hc0
      obtain ⟨b, o, rfl⟩ := addr_plain hc0
      refine ⟨⟨some ⟨b, o, none⟩, cap, (List.range len).map X⟩, by simp [sliF], by simpa using hl, hm, fun y hy => ?_, fun _ => ⟨b, o, rfl, fun i y hy j hj => ?_⟩⟩
      · obtain ⟨i, hi, rfl⟩ := List.mem_map.1 hy
        exact (hX i (by simpa using hi)).2
      · have hi : i < len := by have := (List.getElem?_eq_some_iff.1 hy).1; simpa using this
        have hyx : X i = y := by simpa [List.getElem?_range hi] using hy
        subst hyx
        have := (World.cells?_some (hX i hi).1).2.2 j hj
        rw [add_add, add_at] at this
        rw [← this, Nat.add_assoc]
theorem good_array {n : Nat} {t e : TypeId} {f : α → List Value} {good : α → Prop} {k : Nat} (hu : P.underlying t = some (.array n e)) (hc : P.cellsOf e = k) (hn : P.cellsOf t = n * k) (he : Good enc P W base spare held e f good) :
    Good enc P W base spare held t (rowsOf f) (fun L => L.length = n ∧ ∀ a ∈ L, good a) := fun fuel cs x hx => by
  obtain ⟨xs, m, _, _, hl, hxl, hg⟩ := DataW.trod_array hu hx
  rw [hn] at hl
  rw [hc] at hg
  have each : ∀ i, i < n → ∃ x : α, (cs.drop (i * k)).take k = f x ∧ good x := fun i hi => by
    have h1 := hg i hi
    rw [List.getElem?_eq_getElem (by omega)] at h1
    exact he _ _ _ h1
  have key : ∀ (n : Nat) (cs : List Value), cs.length = n * k → (∀ i, i < n → ∃ x : α, (cs.drop (i * k)).take k = f x ∧ good x) → ∃ L : List α, cs = rowsOf f L ∧ L.length = n ∧ ∀ a ∈ L, good a := by
    intro n
    induction n with
    | zero => intro cs h _; exact ⟨[], by rw [Nat.zero_mul] at h; simpa [rowsOf] using List.eq_nil_of_length_eq_zero h, rfl, fun a h => by simp at h⟩
    | succ n ih =>
      intro cs h hh
      obtain ⟨x, hx1, hx2⟩ := hh 0 (by omega)
      rw [Nat.zero_mul, List.drop_zero] at hx1
      obtain ⟨L, hL1, hL2, hL3⟩ := ih (cs.drop k) (by rw [List.length_drop, h, Nat.add_mul]; omega) (fun i hi => by
        obtain ⟨y, hy1, hy2⟩ := hh (i + 1) (by omega)
        refine ⟨y, ?_, hy2⟩
        rw [List.drop_drop, show k + i * k = (i + 1) * k by rw [Nat.add_mul]; omega]; exact hy1)
      refine ⟨x :: L, ?_, by simp [hL2], fun a ha => ?_⟩
      · rw [rowsOf_cons, ← hx1, ← hL1, List.take_append_drop]
      · rcases List.mem_cons.1 ha with rfl | h
        · exact hx2
        · exact hL3 a h
  exact key n cs hl each
theorem good_struct {t : TypeId} {fs : Array Field} {f : α → List Value} {good : α → Prop} (hu : P.underlying t = some (.struct fs)) (hf : ∀ n (cs : List Value), cs.length = P.cellsOf t → (∀ fd ∈ fs.toList, ∃ y, DataW.trod enc P W base spare held n fd.type ((cs.drop fd.offset).take (P.cellsOf fd.type)) = some y) → ∃ a, cs = f a ∧ good a) :
    Good enc P W base spare held t f good := fun fuel cs x hx => by
  obtain ⟨xs, n, _, rfl, hl, hlen, hg⟩ := DataW.trod_struct hu hx
  refine hf n cs hl (fun fd hfd => ?_)
  obtain ⟨i, hi, rfl⟩ := List.getElem_of_mem hfd
  have := hg i fs.toList[i] (by rw [← Array.getElem?_toList]; exact List.getElem?_eq_getElem hi)
  rw [List.getElem?_eq_getElem (by rw [hlen]; simpa using hi)] at this
  exact ⟨_, this⟩
/-- A struct's fields told one by one: cells are those of the first, then the rest. -/
theorem struct_cons {n o k : Nat} {fd : Field} {fs : List Field} {cs : List Value} {f : α → List Value} {good : α → Prop} (ho : fd.offset = o) (hk : P.cellsOf fd.type = k) (hg : Good enc P W base spare held fd.type f good)
    (h : ∀ fd' ∈ fd :: fs, ∃ y, DataW.trod enc P W base spare held n fd'.type ((cs.drop fd'.offset).take (P.cellsOf fd'.type)) = some y) :
    (∃ a, cs.drop o = f a ++ cs.drop (o + k) ∧ good a) ∧ ∀ fd' ∈ fs, ∃ y, DataW.trod enc P W base spare held n fd'.type ((cs.drop fd'.offset).take (P.cellsOf fd'.type)) = some y := by
  refine ⟨?_, fun fd' h' => h fd' (List.mem_cons_of_mem _ h')⟩
  obtain ⟨y, hy⟩ := h fd List.mem_cons_self
  rw [ho, hk] at hy
  obtain ⟨a, ha, hg⟩ := hg _ _ _ hy
  exact ⟨a, by rw [← ha, ← List.drop_drop, List.take_append_drop], hg⟩
/-- An argument that is a slice. -/
theorem open_sli {t e : TypeId} {f : α → List Value} {good : α → Prop} {k : Nat} {v : Value} {d : DataW H} {ps : List MemPlace} {ts : List TypeId} {ds : List (DataW H)} {j : Nat} {r : Reach} {b0 : Nat}
    (hsz : (DataW.weightsEach P ts ds).all (· ≤ reachBytes) = true) (ht : ts[j]? = some t) (hd : ds[j]? = some d) (hu : P.underlying t = some (.slice e)) (hc : P.cellsOf e = k) (hk0 : 0 < k) (hk : ∀ x, (f x).length = k) (he : Good enc P W base spare held e f good)
    (hv : Value.okWide P W r b0 t v) (h : DataW.Trod enc P W base spare held t v d ps) : ∃ q : Sli α, v = .slice q.A q.L.length q.c ∧ SliGood W f k good q ∧ q.L.length * P.bytesOf e ≤ reachBytes := by
  obtain ⟨A, len, cap, rfl⟩ := okWide_slice hu hv
  obtain ⟨fuel, hf⟩ := h
  obtain ⟨q, hq, hg⟩ := good_slice hu hc hk0 hk he fuel _ _ hf
  have hcs : (Value.slice A len cap).cells.toList = [.slice A len cap] := rfl
  rw [hcs] at hq
  simp only [sliF, List.cons.injEq, and_true] at hq
  refine ⟨q, hq, hg, ?_⟩
  rw [hcs] at hf
  rcases open_slice hu hf with ⟨h1, _⟩ | ⟨a, l, c, m, n', D, Pl, h1, _, _, _, _, hx, _⟩
  · cases h1
    simp only [Value.slice.injEq] at hq
    rw [← hq.2.1]; simp
  · cases h1
    simp only [Value.slice.injEq] at hq
    obtain ⟨hx, _⟩ := Prod.mk.inj hx
    subst hx
    have z := sized_slice hsz ht hd hu
    simp only [List.length_map, List.length_range] at z
    rw [← hq.2.1]
    exact Nat.le_trans (Nat.mul_le_mul_right _ (by omega)) z
end
theorem reach_eq : reachBytes = 140737488351232 := rfl
end Go.Proofs.Ytcpfafmkhegckaa
/-
  Small lemmas on memory that several parts share.
-/
namespace Go.Proofs.Ytcpfafmkhegckaa
open Go.RowKit
set_option linter.unusedVariables false
set_option linter.unusedSimpArgs false
set_option linter.unnecessarySimpa false
theorem own_slice1 {w : World} {base e size n : Nat} {v : Value} {xs : List Value} (h : w.ownsRow base e size v n xs) : ∃ sp c, v = .slice sp n c := by
  rcases h.2 with ⟨rfl, rfl⟩ | ⟨g, cap, cur, rfl, _⟩
  · exact ⟨_, _, rfl⟩
  · exact ⟨_, _, rfl⟩
theorem head_set {w : World} {g : Nat} {t : TypeId} {cs : Array Value} (h : w.heap[g]? = some (.cells cs t (0, 0))) (i : Nat) (u : Value) : (w.setCell ⟨g, i, none⟩ u).heap[g]? = some (.cells (cs.setIfInBounds i u) t (0, 0)) := by
  simp [World.setCell, Array.getElem?_modify, h]
theorem rd_row {w : World} {g k : Nat} {t : TypeId} {cs : List Value} (h : w.heap[g]? = some (.cells cs.toArray t (0, 0))) (hk : cs.length = k) (c : Nat) : Rd w (.slice (some ⟨g, 0, none⟩) 1 c) k 1 cs :=
  ⟨by rw [hk, Nat.one_mul], .inr ⟨_, c, rfl, fun j u hu => by rw [add_at, cell_row h, Nat.zero_add]; simpa using hu⟩⟩
theorem own_low {w : World} {base base' e size n : Nat} {v : Value} {xs : List Value} (h : w.ownsRow base e size v n xs) (hb : base' ≤ base) : w.ownsRow base' e size v n xs := by
  rcases h with ⟨h1, h2 | ⟨g, cap, cur, e1, e2, e3, e4⟩⟩
  · exact ⟨h1, .inl h2⟩
  · exact ⟨h1, .inr ⟨g, cap, cur, e1, Nat.le_trans hb e2, e3, e4⟩⟩
theorem own_move {w w' : World} {base e size n : Nat} {v : Value} {xs : List Value} (h : w.ownsRow base e size v n xs) (hm : ∀ k, v.ownBlock = some k → w'.heap[k]? = w.heap[k]?) : w'.ownsRow base e size v n xs := by
  rcases h with ⟨h1, h2 | ⟨g, cap, cur, e1, e2, e3, e4⟩⟩
  · exact ⟨h1, .inl h2⟩
  · exact ⟨h1, .inr ⟨g, cap, cur, e1, e2, (hm g (by rw [e1]; rfl)).trans e3, e4⟩⟩
theorem box_range {w : World} {g : Nat} {t : TypeId} {cs : List Value} (h : w.heap[g]? = some (.cells cs.toArray t (0, 0))) : w.rangeAt g 0 cs := fun j v hv => by rw [cell_row h, Nat.zero_add]; simpa using hv
theorem fill_one (X : Array Value) (ws : List Value) (n : Nat) (hX : X.size = n) (hl : ws.length = n) : Instr.fill (fun i => some (i * n, n)) X [(0, .agg ws.toArray)] = some ws.toArray := by
  have hX2 : X = X.toList.toArray := rfl
  have := fold_set 0 ws 0 X.toList (by simp [hX, hl])
  unfold Instr.fill
  simp only [Nat.zero_mul, Value.cells, List.size_toArray, hl, hX]
  rw [if_neg (by simp)]
  unfold Instr.fill
  rw [Array.zipIdx_toArray]
  simp only [List.foldl_toArray]
  rw [hX2, this]
  rw [List.drop_eq_nil_of_le (by simp [hX, hl])]
  simp
theorem run_buildSlice_one {P : Program} (w : World) (t e : TypeId) (i : TypeInfo) (z : Array Value) (ws : List Value) (n : Nat) (ht : P.underlying t = some (.slice e)) (hi : P.info? e = some i) (hz : i.zero = some (.agg z)) (hs : i.size = n) (hzs : z.size = n) (hl : ws.length = n) (h0 : 0 < n) (h24 : n ≤ 16777216) :
    (Instr.buildSlice t 1 #[(0, .agg ws.toArray)]).run P w = .ok (.slice (some ⟨w.heap.size, 0, none⟩) 1 1) (w.alloc (.cells ws.toArray e)) := by
  subst hs
  have h1 : ¬ (2 ^ 24 < i.size) := by omega
  have h2 : ¬ (i.size = 0) := by omega
  have hf := fill_one ((Array.range (1 * i.size)).map (z[· % z.size]!)) ws i.size (by simp) hl
  rw [Nat.one_mul] at hf
  unfold Instr.buildSlice
  simp only [Sem.run_bind, run_underlying ht, Result.andThen_ok]
  simp [sizeOf, typeInfo, zeroValue, hi, hz, h1, h2, Value.cells, hf, newRow]
theorem step_buildSlice {P : Program} {ops : Array Oper} {o : Oper} {a : Act} {w : World} {K : Act → World → Prop} {Q : Exit → Act → World → Prop} {E : Prop} (hgd : o.guard = none) (t : TypeId) (x : Operand) (ho : o.op = .buildSlice t 1 #[(0, x)])
    (e : TypeId) (z : Array Value) (ws : List Value) (n bytes : Nat) (ht : P.underlying t = some (.slice e)) (hinfo : (P.info? e).map (fun i => (i.zero, i.size, i.bytes)) = some (some (.agg z), n, bytes)) (hx : a.eval x = .agg ws.toArray) (hzs : z.size = n) (hl : ws.length = n) (h0 : 0 < n) (h24 : n ≤ 16777216)
    (h : K (a.put o.dst (.slice (some ⟨w.heap.size, 0, none⟩) 1 1)) (w.alloc (.cells ws.toArray e))) : if Region.wanted o (yielded ops a.tmps) = true then Oper.wp P o a w K Q else E := by
  have hw : Region.wanted o (yielded ops a.tmps) = true := by simp [Region.wanted, hgd]
  rw [if_pos hw]
  obtain ⟨i, hi, hz, hsi, hbi⟩ := info_parts hinfo
  have hr := run_buildSlice_one w t e i z ws n ht hi hz hsi hzs hl h0 h24
  unfold Oper.wp execOp
  simp only [ho, Sem.run_bind, List.map_toArray, List.map_cons, List.map_nil, hx, hr, Result.andThen_ok]
  exact h
theorem wpList_buildSlice {P : Program} {ops : Array Oper} {rest : List Oper} {o : Oper} {a : Act} {w : World} {Q : Exit → Act → World → Prop} (hgd : o.guard = none) (t : TypeId) (x : Operand) (ho : o.op = .buildSlice t 1 #[(0, x)])
    (e : TypeId) (z : Array Value) (ws : List Value) (n bytes : Nat) (ht : P.underlying t = some (.slice e)) (hinfo : (P.info? e).map (fun i => (i.zero, i.size, i.bytes)) = some (some (.agg z), n, bytes)) (hx : a.eval x = .agg ws.toArray) (hzs : z.size = n) (hl : ws.length = n) (h0 : 0 < n) (h24 : n ≤ 16777216)
    (h : wpList P ops Q rest (a.put o.dst (.slice (some ⟨w.heap.size, 0, none⟩) 1 1)) (w.alloc (.cells ws.toArray e))) : wpList P ops Q (o :: rest) a w := by
  refine wpList_plain hgd fun K hK => ?_
  obtain ⟨i, hi, hz, hsi, hbi⟩ := info_parts hinfo
  have hr := run_buildSlice_one w t e i z ws n ht hi hz hsi hzs hl h0 h24
  unfold Oper.wp execOp
  simp only [ho, Sem.run_bind, List.map_toArray, List.map_cons, List.map_nil, hx, hr, Result.andThen_ok]
  exact hK _ _ h
theorem run_buildSlice_zero {P : Program} (w : World) (t e : TypeId) (i : TypeInfo) (z : Value) (n : Nat) (ht : P.underlying t = some (.slice e)) (hi : P.info? e = some i) (hz : i.zero = some z) (hs : i.size = n) (h0 : 0 < n) (h24 : n ≤ 16777216) :
    (Instr.buildSlice t 0 #[]).run P w = .ok (.slice (some ⟨w.heap.size, 0, none⟩) 0 0) (w.alloc (.cells #[] e)) := by
  subst hs
  have h1 : ¬ (2 ^ 24 < i.size) := by omega
  have h2 : ¬ (i.size = 0) := by omega
  unfold Instr.buildSlice
  simp only [Sem.run_bind, run_underlying ht, Result.andThen_ok]
  simp [sizeOf, typeInfo, zeroValue, hi, hz, h1, h2, Instr.fill, newRow]
  rw [Array.eq_empty_of_size_eq_zero (xs := Array.map (fun x => default) (Array.range 0)) (by simp)]
theorem wpList_buildSlice0 {P : Program} {ops : Array Oper} {rest : List Oper} {o : Oper} {a : Act} {w : World} {Q : Exit → Act → World → Prop} (hgd : o.guard = none) (t : TypeId) (ho : o.op = .buildSlice t 0 #[])
    (e : TypeId) (z : Value) (n bytes : Nat) (ht : P.underlying t = some (.slice e)) (hinfo : (P.info? e).map (fun i => (i.zero, i.size, i.bytes)) = some (some z, n, bytes)) (h0 : 0 < n) (h24 : n ≤ 16777216)
    (h : ∀ v w', w'.ownsRow w.heap.size e n v 0 [] → Below w.heap.size w w' → wpList P ops Q rest (a.put o.dst v) w') : wpList P ops Q (o :: rest) a w := by
  refine wpList_plain hgd fun K hK => ?_
  obtain ⟨i, hi, hz, hsi, hbi⟩ := info_parts hinfo
  have hr := run_buildSlice_zero w t e i z n ht hi hz hsi h0 h24
  unfold Oper.wp execOp
  simp only [ho, Sem.run_bind, List.map_toArray, List.map_nil, hr, Result.andThen_ok]
  exact hK _ _ (h _ _ ⟨by simp, .inr ⟨w.heap.size, 0, #[], rfl, Nat.le_refl _, new_heap w (.cells #[] e (0, 0)), Nat.le_refl _, by simp [maxLen], by simp, by simp⟩⟩ ((Below.refl _ w).alloc (Nat.le_refl _) _))
theorem step_buildSlice0 {P : Program} {ops : Array Oper} {o : Oper} {a : Act} {w : World} {K : Act → World → Prop} {Q : Exit → Act → World → Prop} {E : Prop} (hgd : o.guard = none) (t : TypeId) (ho : o.op = .buildSlice t 0 #[])
    (e : TypeId) (z : Value) (n bytes : Nat) (ht : P.underlying t = some (.slice e)) (hinfo : (P.info? e).map (fun i => (i.zero, i.size, i.bytes)) = some (some z, n, bytes)) (h0 : 0 < n) (h24 : n ≤ 16777216)
    (h : ∀ v w', w'.ownsRow w.heap.size e n v 0 [] → Below w.heap.size w w' → K (a.put o.dst v) w') : if Region.wanted o (yielded ops a.tmps) = true then Oper.wp P o a w K Q else E := by
  have hw : Region.wanted o (yielded ops a.tmps) = true := by simp [Region.wanted, hgd]
  rw [if_pos hw]
  obtain ⟨i, hi, hz, hsi, hbi⟩ := info_parts hinfo
  have hr := run_buildSlice_zero w t e i z n ht hi hz hsi h0 h24
  unfold Oper.wp execOp
  simp only [ho, Sem.run_bind, List.map_toArray, List.map_nil, hr, Result.andThen_ok]
  exact h _ _ ⟨by simp, .inr ⟨w.heap.size, 0, #[], rfl, Nat.le_refl _, new_heap w (.cells #[] e (0, 0)), Nat.le_refl _, by simp [maxLen], by simp, by simp⟩⟩ ((Below.refl _ w).alloc (Nat.le_refl _) _)
theorem own_arr {α : Type} {w : World} {f : α → List Value} {k base T n : Nat} {v : Value} {L : List α} (h : w.ownsRow base T k v n (rowsOf f L)) (hn : n = L.length) (h1 : 1 ≤ n) : ∃ g c, v = .slice (some ⟨g, 0, none⟩) n c ∧ ArrAt w g T f k L c ∧ base ≤ g := by
  subst hn
  rcases h with ⟨h1, ⟨rfl, h2⟩ | ⟨g, cap, cur, rfl, e2, e3, e4, e5, e6, e7⟩⟩
  · omega
  · exact ⟨g, cap, rfl, ⟨cur, e3, e6, e4, e5, e7⟩, e2⟩
def RowsAt {α : Type} (w : World) (F : Nat → Prop) (f : α → List Value) (k : Nat) (v : Value) (L : List α) : Prop :=
  ∃ A c, v = .slice A L.length c ∧ L.length ≤ c ∧ c ≤ maxLen ∧ (A = none → c = 0) ∧ ReadAt w A f k L ∧ ∀ a, A = some a → a.block < w.heap.size ∧ ¬ F a.block
section
variable {α : Type} {w w' : World} {F G : Nat → Prop} {f : α → List Value} {k : Nat} {v : Value} {L : List α}
theorem RowsAt.keep (hk : ∀ x, (f x).length = k) (h : RowsAt w F f k v L) (hw : Keep F w w') : RowsAt w' F f k v L := by
  obtain ⟨A, c, h1, h2, h3, h0, h4, h5⟩ := h
  refine ⟨A, c, h1, h2, h3, h0, fun hne => ?_, fun a ha => ⟨Nat.lt_of_lt_of_le (h5 a ha).1 hw.size, (h5 a ha).2⟩⟩
  obtain ⟨b, o, e1, e2⟩ := h4 hne
  refine ⟨b, o, e1, fun i x hx j hj => ?_⟩
  have hc := e2 i x hx j hj
  rw [List.getElem?_eq_getElem (by rw [hk]; exact hj)] at hc ⊢
  exact hw.cell hc (h5 _ e1).2
theorem RowsAt.below (hk : ∀ x, (f x).length = k) (h : RowsAt w F f k v L) (hb : Below w.heap.size w w') : RowsAt w' F f k v L :=
  h.keep hk (Keep.mono (Keep.of_below (F := fun _ => False) hb) (fun _ e => e.elim))
theorem RowsAt.foot (h : RowsAt w F f k v L) (hG : ∀ b, b < w.heap.size → G b → F b) : RowsAt w G f k v L := by
  obtain ⟨A, c, h1, h2, h3, h0, h4, h5⟩ := h
  exact ⟨A, c, h1, h2, h3, h0, h4, fun a ha => ⟨(h5 a ha).1, fun g => (h5 a ha).2 (hG _ (h5 a ha).1 g)⟩⟩
end
theorem own_rows {α : Type} {w : World} {F : Nat → Prop} {f : α → List Value} {k base T n : Nat} {v : Value} {L : List α} (hk : ∀ x, (f x).length = k) (h : w.ownsRow base T k v n (rowsOf f L)) (hn : n = L.length) (hF : ∀ b, base ≤ b → ¬ F b) : RowsAt w F f k v L := by
  subst hn
  rcases h with ⟨h1, ⟨rfl, h2⟩ | ⟨g, cap, cur, rfl, e2, e3, e4, e5, e6, e7⟩⟩
  · have : L = [] := List.eq_nil_of_length_eq_zero h2
    subst this
    exact ⟨none, 0, rfl, Nat.le_refl _, by simp [maxLen], fun _ => rfl, fun h => absurd rfl h, fun a ha => by cases ha⟩
  · refine ⟨some ⟨g, 0, none⟩, cap, rfl, e4, e5, (fun h => by cases h), fun _ => ⟨g, 0, rfl, fun i x hx j hj => ?_⟩, fun a ha => by cases ha; exact ⟨(Array.getElem?_eq_some_iff.1 e3).1, hF g e2⟩⟩
    have hi : i < L.length := (List.getElem?_eq_some_iff.1 hx).1
    have hr := rowsOf_get hk L i j x hx hj
    rw [← e7, List.getElem?_take_of_lt (by have : (i + 1) * k ≤ L.length * k := Nat.mul_le_mul_right _ hi; rw [Nat.add_mul] at this; omega)] at hr
    rw [cell_row e3, Nat.zero_add]
    simpa using hr
theorem rows_rd {α : Type} {w : World} {F : Nat → Prop} {f : α → List Value} {k : Nat} {v : Value} {L : List α} (hk : ∀ x, (f x).length = k) (hk0 : 0 < k) (h : RowsAt w F f k v L) : Rd w v k L.length (rowsOf f L) := by
  obtain ⟨A, c, rfl, h2, h3, h0, h4, h5⟩ := h
  refine ⟨rowsOf_len hk L, ?_⟩
  cases A with
  | none =>
    have hc : c = 0 := h0 rfl
    subst hc
    have : L.length = 0 := by omega
    exact .inl ⟨by rw [this], this⟩
  | some a =>
    refine .inr ⟨a, c, rfl, fun j u hu => ?_⟩
    have hj : j < L.length * k := by have := (List.getElem?_eq_some_iff.1 hu).1; rwa [rowsOf_len hk] at this
    have hne : L ≠ [] := fun e => by rw [e] at hj; simp at hj
    obtain ⟨b, o, e1, e2⟩ := h4 hne
    injection e1 with e1
    subst e1
    have hm : j % k < k := Nat.mod_lt _ hk0
    have hd : j / k < L.length := Nat.div_lt_of_lt_mul (by rw [Nat.mul_comm]; exact hj)
    have hpd : j = j / k * k + j % k := by have := Nat.div_add_mod j k; rw [Nat.mul_comm] at this; exact this.symm
    obtain ⟨x, hx⟩ : ∃ x, L[j / k]? = some x := ⟨_, List.getElem?_eq_getElem hd⟩
    have hr := rowsOf_get hk L (j / k) (j % k) x hx hm
    rw [← hpd, hu] at hr
    rw [add_at, hpd, ← Nat.add_assoc, e2 _ _ hx _ hm]
    exact hr.symm
theorem RowsAt.nil {α : Type} {w : World} {F : Nat → Prop} {f : α → List Value} {k : Nat} : RowsAt (α := α) w F f k (.slice none 0 0) [] := ⟨none, 0, rfl, Nat.le_refl _, by simp [maxLen], fun _ => rfl, fun h => absurd rfl h, fun a ha => by cases ha⟩
theorem rows_at {α : Type} {w : World} {A : Option Addr} {f : α → List Value} {k : Nat} {L : List α} (hk : ∀ x, (f x).length = k) (h : ReadAt w A f k L) {i : Nat} {x : α} (hi : L[i]? = some x) : ∃ b o, A = some ⟨b, o, none⟩ ∧ w.rangeAt b (o + i * k) (f x) := by
  obtain ⟨b, o, h1, h2⟩ := h (fun e => by rw [e] at hi; simp at hi)
  refine ⟨b, o, h1, fun j v hv => ?_⟩
  have hj : j < k := by have := (List.getElem?_eq_some_iff.1 hv).1; rwa [hk] at this
  rw [h2 i x hi j hj]; exact hv
theorem there_new (w : World) (cs : Array Value) (t : TypeId) {n : Nat} (hn : n = cs.size) : (w.alloc (.cells cs t (0, 0))).there w.heap.size 0 n := fun j hj => by
  have := cell_row (new_heap w (.cells cs t (0, 0))) (0 + j)
  refine ⟨by rw [this]; simp; omega, free_row (new_heap w _) _⟩
theorem there_of {w : World} {g : Nat} {cs : Array Value} {t : TypeId} (h : w.heap[g]? = some (.cells cs t (0, 0))) {n : Nat} (hn : n = cs.size) : w.there g 0 n := fun j hj => by
  have := cell_row h (0 + j)
  refine ⟨by rw [this]; simp; omega, free_row h _⟩
theorem bdrewL {w w' : World} (h : Below w.drew.heap.size w.drew w') : Below w.heap.size w w' := ⟨h.os, h.tape, h.output, h.size, h.block⟩
theorem wpList_append_rd_at {P : Program} (w : World) {ops : Array Oper} {rest : List Oper} {o : Oper} {a : Act} {Q : Exit → Act → World → Prop} (hgd : o.guard = none) (s x : Operand) (t : TypeId)
    (ho : o.op = .call { callee := .builtin .append, args := #[s, x], argTypes := #[t, t] })
    (base : Nat) (e : TypeId) (z : Value) (size bytes : Nat) (ht : P.underlying t = some (.slice e)) (hinfo : (P.info? e).map (fun i => (i.zero, i.size, i.bytes)) = some (some z, size, bytes))
    (hzs : z.cells.size = size) (hsz : 0 < size)
    (v : Value) (n : Nat) (xs : List Value) (hs : a.eval s = v) (hown : w.ownsRow base e size v n xs)
    (u : Value) (m : Nat) (news : List Value) (hx : a.eval x = u) (hu : Rd w u size m news) (h1 : ∀ u ∈ news, u.oneCell' = true)
    (hbytes : (n + m) * bytes ≤ 140737488355328) (hby : 0 < bytes) (hbase : base ≤ w.heap.size)
    (h : ∀ v' w', w'.ownsRow base e size v' (n + m) (xs ++ news) → Below base w w' → w.grownBy w' v.ownBlock → (v'.ownBlock = v.ownBlock ∨ v'.ownBlock = some w.heap.size) → wpList P ops Q rest (a.put o.dst v') w') : wpList P ops Q (o :: rest) a w := by
  obtain ⟨i, hi, hz, hsi, hbi⟩ := info_parts hinfo
  have h63 : n + m ≤ maxLen := by
    have : n + m ≤ (n + m) * bytes := Nat.le_mul_of_pos_right _ hby
    unfold maxLen; omega
  rcases hu.2 with ⟨rfl, rfl⟩ | ⟨ad, c, rfl, hc⟩
  · have hnews : news = [] := List.eq_nil_of_length_eq_zero (by simpa using hu.1)
    subst hnews
    refine wpList_plain hgd fun K hK' => ?_
    have hrun := run_append_owned_none (P := P) (w := w) base t o.type e i size ht hi v n xs hown
    unfold Oper.wp
    simp [execOp, ho, resolve, invoke, builtin, hs, hx, hrun, Result.andThen]
    exact hK' _ _ (by simpa using h v w (by simpa using hown) (Below.refl _ _) (World.grownBy.refl _ _) (.inl rfl))
  · exact wpList_append_own_at w hgd s x t ho base e i z size bytes ht hi hz hsi hbi hzs hsz v n xs hs hown ad m c news hx hu.1 hc h1 h63 hbytes hbase
      (fun v' w' h2 h3 _ h5 => h v' w' h2 (grown_below hown h3 hbase) h3 h5)
theorem own_full {w : World} {base e n g : Nat} {xs : List Value} (h : w.ownsRow base e 1 (.slice (some ⟨g, 0, none⟩) n n) n xs) : w.heap[g]? = some (.cells xs.toArray e (0, 0)) := by
  rcases h with ⟨h1, ⟨e1, _⟩ | ⟨g', cap, cur, e1, e2, e3, e4, e5, e6, e7⟩⟩
  · cases e1
  · cases e1
    rw [e3]
    have : cur.toList = xs := by rw [← e7, List.take_of_length_le (by simp [e6])]
    congr 2
    rw [← this]
theorem rd_bytes {w : World} {g n : Nat} {t : TypeId} {l : List UInt8} (h : w.heap[g]? = some (.cells (bvs l).toArray t (0, 0))) (hn : l.length = n) (c : Nat) : Rd w (.slice (some ⟨g, 0, none⟩) n c) 1 n (bvs l) :=
  ⟨by simp [hn], .inr ⟨_, c, rfl, fun j u hu => by rw [add_at, cell_row h, Nat.zero_add]; simpa using hu⟩⟩
end Go.Proofs.Ytcpfafmkhegckaa
