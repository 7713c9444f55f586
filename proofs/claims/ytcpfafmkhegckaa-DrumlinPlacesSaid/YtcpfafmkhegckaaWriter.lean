/-
  The contracts of a sector's writer, part by part.
-/
import Derived.Test.YtcpfafmkhegckaaNum
import Derived.Deep.RegionHeld3
import Derived.Deep.QuietTactic
import Derived.BigQuiet
import Derived.Deep.DeepCutAuto
import Derived.Deep.CutBlock
import Derived.IntWalk
import Derived.Laws.CopyOwn
namespace Go.Proofs.Ytcpfafmkhegckaa
open Go.RowKit
set_option linter.unusedVariables false
set_option linter.unusedSimpArgs false

/-! ### plain -/
def zpad (n : Nat) (l : List UInt8) : List UInt8 := l ++ List.replicate (n - l.length) 0
theorem zpad_length (n : Nat) (l : List UInt8) (h : l.length ≤ n) : (zpad n l).length = n := by simp [zpad]; omega
/-- A writer's state: what is written, the error. -/
abbrev WSt := List UInt8 × Int
def wNum (s : WSt) (width : Int) (x : Nat) : WSt := if s.2 = 0 then (if putOk 128 s.1.length width x then (s.1 ++ le width.toNat x, 0) else (s.1, 1)) else s
def wBytes (s : WSt) (size : Int) (b : List UInt8) : WSt := if s.2 = 0 then (if size < b.length ∨ size > 128 - (s.1.length : Int) then (s.1, 1) else (s.1 ++ (b ++ List.replicate (size.toNat - b.length) 0), 0)) else s
theorem wNum_le (s : WSt) (width : Int) (x : Nat) (h : s.1.length ≤ 128) : (wNum s width x).1.length ≤ 128 := by
  unfold wNum
  split
  · split
    · rename_i _ hp
      simp only [putOk, Bool.and_eq_true] at hp
      obtain ⟨h1, h2, h3, h4⟩ := (fitsB_iff _ _ _).1 hp.1
      simp; omega
    · exact h
  · exact h
theorem wBytes_le (s : WSt) (size : Int) (b : List UInt8) (h : s.1.length ≤ 128) : (wBytes s size b).1.length ≤ 128 := by
  unfold wBytes
  split
  · split
    · exact h
    · simp; omega
  · exact h
/-- A writer's cells. -/
def wrCells (s : WSt) : Array Value := (bvs (zpad 128 s.1) ++ [Value.int .i64 s.1.length, Value.int .i64 s.2]).toArray
theorem wrCells_size (s : WSt) (h : s.1.length ≤ 128) : (wrCells s).size = 130 := by simp [wrCells, zpad_length _ _ h]
theorem wrCells_at (s : WSt) (h : s.1.length ≤ 128) : (wrCells s)[128]? = some (.int .i64 s.1.length) := by
  have hl : (bvs (zpad 128 s.1)).length = 128 := by simp [zpad_length _ _ h]
  unfold wrCells
  rw [List.getElem?_toArray, List.getElem?_append_right (by omega), hl]; rfl
theorem wrCells_err (s : WSt) (h : s.1.length ≤ 128) : (wrCells s)[129]? = some (.int .i64 s.2) := by
  have hl : (bvs (zpad 128 s.1)).length = 128 := by simp [zpad_length _ _ h]
  unfold wrCells
  rw [List.getElem?_toArray, List.getElem?_append_right (by omega), hl]; rfl
/-- A writer that lies in a block. -/
def WrAt (w : World) (g : Nat) (s : WSt) : Prop := s.1.length ≤ 128 ∧ w.heap[g]? = some (.cells (wrCells s) 114 (0, 0))
/-- Only one block is another one. -/
def OnlyAt (g : Nat) (w w' : World) : Prop := w.grownBy w' (some g) ∧ w'.heap.size = w.heap.size
theorem OnlyAt.refl (g : Nat) (w : World) : OnlyAt g w w := ⟨World.grownBy.refl _ _, rfl⟩
theorem OnlyAt.row {g : Nat} {w w' : World} (h : OnlyAt g w w') (cs : Array Value) : OnlyAt g w (w'.setRow g cs) :=
  ⟨⟨h.1.os, h.1.tape, h.1.output, by rw [setRow_size]; exact h.1.size, fun k hk hne => by rw [setRow_other w' g k cs (fun e => hne (by rw [e]))]; exact h.1.block k hk hne⟩, by rw [setRow_size]; exact h.2⟩
theorem OnlyAt.drewN {g : Nat} {w w' : World} (h : OnlyAt g w w') (n : Nat) : OnlyAt g w (w'.drewN n) := ⟨⟨h.1.os, h.1.tape, h.1.output, h.1.size, h.1.block⟩, h.2⟩
theorem OnlyAt.drew {g : Nat} {w w' : World} (h : OnlyAt g w w') : OnlyAt g w w'.drew := ⟨⟨h.1.os, h.1.tape, h.1.output, h.1.size, h.1.block⟩, h.2⟩
/-- What a writer's step comes to. -/
def WrTo (w : World) (g : Nat) (s : WSt) (e : Ending) (w' : World) : Prop := e = .returned (.tuple #[]) ∧ WrAt w' g s ∧ OnlyAt g w w'

/-- Put into a window of a row whose cells are known. -/
theorem put_row (g o n c : Nat) (cur : Array Value) (t : TypeId) (at_ width : Int) (x : Nat) (w : World) (hg : w.heap[g]? = some (.cells cur t (0, 0))) (hon : o + n ≤ cur.size) (hn : n ≤ 140737488355328) (hx : x < 2 ^ 64) :
    Calls Try.prog 107 #[.slice (some ⟨g, o, none⟩) n c, .int .i64 at_, .int .i64 width, .int .u64 x] w fun e w' =>
      e = .returned (.int .i64 (putE n at_ width x)) ∧ w' = w.setRow g (if putOk n at_ width x then written cur (o + at_.toNat) (le width.toNat x) else cur) := by
  cases hp : putOk n at_ width x with
  | false =>
    refine (put_no (some ⟨g, o, none⟩) n c at_ width x w hn hp hx).mono fun e w' ⟨h1, h2⟩ => ?_
    subst h2
    refine ⟨by rw [h1]; simp [putE, hp], ?_⟩
    simp only [Bool.false_eq_true, if_false]
    exact (setRow_self w g cur t _ hg).symm
  | true =>
    have hp' := hp
    simp only [putOk, Bool.and_eq_true, decide_eq_true_eq] at hp'
    obtain ⟨h1, h2, h3, h4⟩ := (fitsB_iff _ _ _).1 hp'.1
    obtain ⟨a, rfl⟩ := Int.eq_ofNat_of_zero_le h3
    obtain ⟨k, rfl⟩ := Int.eq_ofNat_of_zero_le (show 0 ≤ width by omega)
    simp only [Int.toNat_natCast] at hp' ⊢
    refine (put_yes g o n c cur t a k x w hg hon hn (by omega) (by omega) (by omega) hp'.2).mono fun e w' ⟨h5, h6⟩ => ?_
    exact ⟨by rw [h5]; simp [putE, hp], by simpa using h6⟩
/-- The cells behind a number that was put. -/
theorem written_num (l : List UInt8) (k x : Nat) (e e' : Int) (h : l.length + k ≤ 128) :
    ((written (wrCells (l, e)) l.length (le k x)).setIfInBounds 129 (.int .i64 e')).setIfInBounds 128 (.int .i64 ((l.length + k : Nat) : Int)) = wrCells (l ++ le k x, e') := by
  apply Array.ext_getElem?
  intro i
  have hs : (written (wrCells (l, e)) l.length (le k x)).size = 130 := by
    rw [written_size _ _ _ (by rw [wrCells_size _ (by simp; omega)]; simp; omega), wrCells_size _ (by simp; omega)]
  have hs0 : (wrCells (l, e)).size = 130 := wrCells_size _ (by simp; omega)
  rw [Array.getElem?_setIfInBounds, Array.getElem?_setIfInBounds]
  by_cases h128 : 128 = i
  · subst h128
    rw [if_pos rfl, if_pos (by simp [hs]), wrCells_at _ (by simp; omega)]; simp
  · rw [if_neg h128]
    by_cases h129 : 129 = i
    · subst h129
      rw [if_pos rfl, if_pos (by omega), wrCells_err _ (by simp; omega)]
    · rw [if_neg h129]
      by_cases hi : i < 128
      · have hb : ∀ (s : WSt), s.1.length ≤ 128 → (wrCells s)[i]? = some (.int .u8 (((zpad 128 s.1).getD i 0).toNat : Int)) := fun s hs' => by
          unfold wrCells
          rw [List.getElem?_toArray, List.getElem?_append_left (by simp [zpad_length _ _ hs']; omega), bvs_get _ _ (by rw [zpad_length _ _ hs']; exact hi)]
        rw [hb (l ++ le k x, e') (by simp; omega)]
        by_cases c1 : i < l.length
        · rw [written_out _ _ _ (by rw [hs0]; simp; omega) _ (.inl c1), hb (l, e) (by simp; omega)]
          simp [zpad, List.getElem?_append_left c1, c1]
        · by_cases c2 : i < l.length + k
          · obtain ⟨j, rfl⟩ : ∃ j, i = l.length + j := ⟨i - l.length, by omega⟩
            rw [written_in _ _ _ (by rw [hs0]; simp; omega) _ (by simp; omega)]
            have : (zpad 128 (l ++ le k x)).getD (l.length + j) 0 = (le k x).getD j 0 := by
              simp only [zpad, List.append_assoc, List.getD_eq_getElem?_getD]
              rw [List.getElem?_append_right (by omega), Nat.add_sub_cancel_left, List.getElem?_append_left (by simp; omega)]
            rw [this]
          · rw [written_out _ _ _ (by rw [hs0]; simp; omega) _ (.inr (by simp; omega)), hb (l, e) (by simp; omega)]
            have e1 : (zpad 128 l).getD i 0 = 0 := by
              simp only [zpad, List.getD_eq_getElem?_getD]
              rw [List.getElem?_append_right (by omega), List.getElem?_replicate]
              split <;> rfl
            have e2 : (zpad 128 (l ++ le k x)).getD i 0 = 0 := by
              simp only [zpad, List.getD_eq_getElem?_getD]
              rw [List.getElem?_append_right (by simp; omega), List.getElem?_replicate]
              split <;> rfl
            rw [e1, e2]
      · rw [Array.getElem?_eq_none (by omega), Array.getElem?_eq_none (by rw [wrCells_size _ (by simp; omega)]; omega)]

theorem wrCells_err_set (l : List UInt8) (e e' : Int) (h : l.length ≤ 128) : (wrCells (l, e)).setIfInBounds 129 (.int .i64 e') = wrCells (l, e') := by
  have hb : (bvs (zpad 128 (l, e).1)).length = 128 := by simp [zpad_length _ _ h]
  unfold wrCells
  rw [List.setIfInBounds_toArray, List.set_append_right _ _ (by omega), hb]
  rfl
theorem WrAt.c128 {w : World} {g : Nat} {s : WSt} (h : WrAt w g s) : w.cell? ⟨g, 128, none⟩ = some (.int .i64 s.1.length) := by rw [cell_row h.2, wrCells_at _ h.1]
theorem WrAt.c129 {w : World} {g : Nat} {s : WSt} (h : WrAt w g s) : w.cell? ⟨g, 129, none⟩ = some (.int .i64 s.2) := by rw [cell_row h.2, wrCells_err _ h.1]
set_option maxHeartbeats 1000000 in
set_option maxRecDepth 10000 in
theorem wnum_bad (g : Nat) (l : List UInt8) (e : Int) (width : Int) (x : Nat) (w : World) (he : e ≠ 0) (h : WrAt w g (l, e)) :
    Calls Try.prog 51 #[.pointer (some ⟨g, 0, none⟩), .int .i64 width, .int .u64 x] w (WrTo w g (l, e)) := by
  have c2 := h.c129
  have hne : (e == 0) = false := by simpa using he
  have H := Lib.hid h
  clear h he
  go_enter Try.func51, Try.ntmps51
  go_wp2
  go_end0
  exact ⟨rfl, H.out, OnlyAt.refl _ _⟩
set_option maxHeartbeats 1000000 in
set_option maxRecDepth 10000 in
theorem wnum_ok (g : Nat) (l : List UInt8) (width : Int) (x : Nat) (w : World) (hx : x < 2 ^ 64) (h : WrAt w g (l, 0)) (hp : putOk 128 l.length width x = true) :
    Calls Try.prog 51 #[.pointer (some ⟨g, 0, none⟩), .int .i64 width, .int .u64 x] w (WrTo w g (l ++ le width.toNat x, 0)) := by
  have hl : l.length ≤ 128 := h.1
  have hp' := hp
  simp only [putOk, Bool.and_eq_true] at hp'
  obtain ⟨q1, q2, q3, q4⟩ := (fitsB_iff _ _ _).1 hp'.1
  obtain ⟨k, rfl⟩ := Int.eq_ofNat_of_zero_le (show 0 ≤ width by omega)
  have c1 := h.c128
  have c2 := h.c129
  have hsz : (wrCells (l, 0)).size = 130 := wrCells_size _ hl
  have hE : putE 128 l.length k x = 0 := by simp [putE, hp]
  have HE := Lib.hid hE
  have HP := Lib.hid hp
  have HH := Lib.hid h.2
  have HS := Lib.hid hsz
  have HX := Lib.hid hx
  clear h hp hp' hE hsz hx
  go_enter Try.func51, Try.ntmps51
  go_wp2
  go_region_held3 (fun w' => w'.cell? ⟨g, 128, none⟩ = some (.int .i64 l.length)) (first | exact c1 | exact c3 | (rw [World.cell?_setCell_other _ _ _ _ (by simp)]; exact c3))
    (first
      | (go_at_call 107; refine (put_row g 0 128 128 (wrCells (l, 0)) 114 l.length k x w.drew HH.out (by rw [HS.out]; omega) (by omega) HX.out).mono ?_; rintro e w1 ⟨rfl, hw1⟩; rw [HE.out]; rw [HP.out, if_pos rfl, Nat.zero_add, Int.toNat_natCast, Int.toNat_natCast] at hw1; have hg1 := setRow_heap w.drew g _ (written (wrCells (l, 0)) l.length (le k x)) _ _ HH.out; rw [← hw1] at hg1; have hs1 : (written (wrCells (l, 0)) l.length (le k x)).size = 130 := by { rw [written_size _ _ _ (by rw [HS.out]; simp; omega), HS.out] }; have c3 : w1.cell? ⟨g, 128, none⟩ = some (.int .i64 l.length) := by { rw [cell_row hg1, written_out _ _ _ (by rw [HS.out]; simp; omega) _ (.inr (by simp; omega)), wrCells_at _ hl] }; have c4 : w1.cell? ⟨g, 129, none⟩ = some (.int .i64 0) := by { rw [cell_row hg1, written_out _ _ _ (by rw [HS.out]; simp; omega) _ (.inr (by simp; omega)), wrCells_err _ hl] }; have f4 := free_row hg1 129; have f3 := free_row hg1 128; have HG := Lib.hid hg1; have HW := Lib.hid hw1; clear hg1 hw1))
  go_wp2
  go_end0
  have e1 : (w1.setCell ⟨g, 129, none⟩ (.int .i64 0)).setCell ⟨g, 128, none⟩ (.int .i64 ((l.length : Int) + (k : Int))) = w.drew.setRow g (wrCells (l ++ le k x, 0)) := by
    rw [HW.out, setRow_setCell (w := w.drew) HH.out, setRow_setCell (w := w.drew) HH.out]
    have := written_num l k x 0 0 (by omega)
    rw [Int.natCast_add] at this
    rw [this]
  rw [e1]
  exact ⟨rfl, ⟨by simp; omega, setRow_heap w.drew g _ _ _ _ HH.out⟩, (OnlyAt.refl g w).drew.row _⟩
set_option maxHeartbeats 1000000 in
set_option maxRecDepth 10000 in
theorem wnum_no (g : Nat) (l : List UInt8) (width : Int) (x : Nat) (w : World) (hx : x < 2 ^ 64) (h : WrAt w g (l, 0)) (hp : putOk 128 l.length width x = false) :
    Calls Try.prog 51 #[.pointer (some ⟨g, 0, none⟩), .int .i64 width, .int .u64 x] w (WrTo w g (l, 1)) := by
  have hl : l.length ≤ 128 := h.1
  have c1 := h.c128
  have c2 := h.c129
  have hsz : (wrCells (l, 0)).size = 130 := wrCells_size _ hl
  have hE : putE 128 l.length width x = 1 := by simp [putE, hp]
  have HE := Lib.hid hE
  have HP := Lib.hid hp
  have HH := Lib.hid h.2
  have HS := Lib.hid hsz
  have HX := Lib.hid hx
  clear h hp hE hsz hx
  go_enter Try.func51, Try.ntmps51
  go_wp2
  go_region_held3 (fun w' => w'.cell? ⟨g, 128, none⟩ = some (.int .i64 l.length)) (first | exact c1 | exact c3 | (rw [World.cell?_setCell_other _ _ _ _ (by simp)]; exact c3))
    (first
      | (go_at_call 107; refine (put_row g 0 128 128 (wrCells (l, 0)) 114 l.length width x w.drew HH.out (by rw [HS.out]; omega) (by omega) HX.out).mono ?_; rintro e w1 ⟨rfl, hw1⟩; rw [HE.out]; rw [HP.out, if_neg (by decide)] at hw1; have hg1 := setRow_heap w.drew g _ (wrCells (l, 0)) _ _ HH.out; rw [← hw1] at hg1; have c3 : w1.cell? ⟨g, 128, none⟩ = some (.int .i64 l.length) := by { rw [cell_row hg1, wrCells_at _ hl] }; have c4 : w1.cell? ⟨g, 129, none⟩ = some (.int .i64 0) := by { rw [cell_row hg1, wrCells_err _ hl] }; have f4 := free_row hg1 129; have HG := Lib.hid hg1; have HW := Lib.hid hw1; clear hg1 hw1))
  go_wp2
  go_end0
  have e1 : w1.setCell ⟨g, 129, none⟩ (.int .i64 1) = w.drew.setRow g (wrCells (l, 1)) := by
    rw [HW.out, setRow_setCell (w := w.drew) HH.out]
    congr 1
    exact wrCells_err_set l 0 1 hl
  rw [e1]
  exact ⟨rfl, ⟨hl, setRow_heap w.drew g _ _ _ _ HH.out⟩, (OnlyAt.refl g w).drew.row _⟩
/-- A number into a sector that is written. -/
theorem wnum_any (g : Nat) (s : WSt) (width : Int) (x : Nat) (w : World) (hx : x < 2 ^ 64) (h : WrAt w g s) :
    Calls Try.prog 51 #[.pointer (some ⟨g, 0, none⟩), .int .i64 width, .int .u64 x] w (WrTo w g (wNum s width x)) := by
  obtain ⟨l, e⟩ := s
  by_cases he : e = 0
  · subst he
    cases hp : putOk 128 l.length width x with
    | true =>
      have : wNum (l, 0) width x = (l ++ le width.toNat x, 0) := by simp [wNum, hp]
      rw [this]; exact wnum_ok g l width x w hx h hp
    | false =>
      have : wNum (l, 0) width x = (l, 1) := by simp [wNum, hp]
      rw [this]; exact wnum_no g l width x w hx h hp
  · have : wNum (l, e) width x = (l, e) := by simp [wNum, he]
    rw [this]; exact wnum_bad g l e width x w he h
/-! ### Bytes -/
theorem Byt.form {w : World} {v : Value} {l : List UInt8} (h : Byt w v l) : ∃ sp c, v = .slice sp l.length c ∧ (0 < l.length → ∃ b o, sp = some ⟨b, o, none⟩ ∧ RdB w b o l) := by
  rcases h with ⟨rfl, A, c, rfl, _⟩ | ⟨b, o, c, rfl, _, _, hr⟩
  · exact ⟨A, c, rfl, fun h => by simp at h⟩
  · exact ⟨_, c, rfl, fun _ => ⟨b, o, rfl, hr⟩⟩
/-- copy into a row whose cells are known, as one step of a region that draws: the world behind it, exactly. -/
theorem step_copy_row {P : Program} {ops : Array Oper} {o : Oper} {a : Act} {w : World} {K : Act → World → Prop} {Q : Exit → Act → World → Prop} {E : Prop} (hgd : o.guard = none) (d s : Operand) (dT sT : TypeId)
    (ho : o.op = .call { callee := .builtin .copy, args := #[d, s], argTypes := #[dT, sT] }) (elem : TypeId) (hu : P.underlying dT = some (.slice elem)) (hsz : (P.info? elem).map (·.size) = some 1)
    (dp sp : Option Addr) (dLen dCap sLen sCap : Nat) (hd : a.eval d = .slice dp dLen dCap) (hs : a.eval s = .slice sp sLen sCap)
    (g off : Nat) (cur : List Value) (t : TypeId) (hg : w.heap[g]? = some (.cells cur.toArray t (0, 0))) (cs : List Value) (hn : cs.length = Nat.min sLen dLen)
    (hpos : 0 < cs.length → dp = some ⟨g, off, none⟩ ∧ ∃ ad, sp = some ad ∧ ∀ j v, cs[j]? = some v → w.cell? (ad.add j) = some v)
    (hfit : off + cs.length ≤ cur.length) (h1 : ∀ v ∈ cs, v.oneCell' = true)
    (h : K (a.put o.dst (goInt cs.length)) (w.setRow g (splice cur off cs).toArray)) :
    if Region.wanted o (yielded ops a.tmps) = true then Oper.wp P o a w K Q else E := by
  have hw : Region.wanted o (yielded ops a.tmps) = true := by simp [Region.wanted, hgd]
  rw [if_pos hw]
  by_cases h0 : cs.length = 0
  · obtain rfl : cs = [] := List.eq_nil_of_length_eq_zero h0
    have hrun := run_copy_none (P := P) w dT sT o.type elem dp sp dLen dCap sLen sCap hu hsz (by simpa using hn.symm)
    unfold Oper.wp
    simp [execOp, ho, resolve, invoke, builtin, hd, hs, hrun, Result.andThen]
    rw [splice_nil, setRow_self w g _ t _ hg] at h
    exact h
  · obtain ⟨rfl, ad, rfl, hsrc⟩ := hpos (by omega)
    have hrun := run_copy_row (P := P) w dT sT o.type elem g off dLen dCap ad sLen sCap cur.toArray t cs hu hsz hg hn hsrc (by simpa using hfit) h1
    unfold Oper.wp
    simp [execOp, ho, resolve, invoke, builtin, hd, hs, hrun, Result.andThen]
    exact h
theorem RdB.cells {w : World} {b o : Nat} {l : List UInt8} (h : RdB w b o l) (j : Nat) (v : Value) (hv : (bvs l)[j]? = some v) : w.cell? ((⟨b, o, none⟩ : Addr).add j) = some v := by
  have hj : j < l.length := by
    rcases Nat.lt_or_ge j l.length with hlt | hge
    · exact hlt
    · rw [List.getElem?_eq_none (by simpa using hge)] at hv; cases hv
  rw [add_at, h j hj, ← hv, bvs_get _ _ hj]
def wrList (s : WSt) : List Value := bvs (zpad 128 s.1) ++ [Value.int .i64 s.1.length, Value.int .i64 s.2]
theorem wrList_arr (s : WSt) : (wrList s).toArray = wrCells s := rfl
theorem wrList_len (s : WSt) (h : s.1.length ≤ 128) : (wrList s).length = 130 := by simp [wrList, zpad_length _ _ h]
/-- The cells behind bytes that were laid in. -/
theorem splice_bytes (l b : List UInt8) (e : Int) (k : Nat) (h : l.length + k ≤ 128) (hb : b.length ≤ k) :
    ((splice (wrList (l, e)) l.length (bvs b)).toArray).setIfInBounds 128 (.int .i64 ((l.length + k : Nat) : Int)) = wrCells (l ++ (b ++ List.replicate (k - b.length) 0), e) := by
  have e1 : splice (wrList (l, e)) l.length (bvs b) = bvs (l ++ b ++ List.replicate (128 - l.length - b.length) 0) ++ [Value.int .i64 l.length, Value.int .i64 e] := by
    unfold splice wrList zpad
    have h1 : (bvs (l ++ List.replicate (128 - l.length) 0) ++ [Value.int .i64 l.length, Value.int .i64 e]).take l.length = bvs l := by
      rw [List.take_append_of_le_length (by simp), bvs_append, List.take_append_of_le_length (by simp), List.take_of_length_le (by simp)]
    have h2 : (bvs (l ++ List.replicate (128 - l.length) 0) ++ [Value.int .i64 l.length, Value.int .i64 e]).drop (l.length + (bvs b).length) = bvs (List.replicate (128 - l.length - b.length) 0) ++ [Value.int .i64 l.length, Value.int .i64 e] := by
      rw [List.drop_append_of_le_length (by simp; omega), bvs_append, List.drop_append, List.drop_of_length_le (by simp)]
      simp [bvs]
    simp only [h1, h2]
    simp [bvs_append]
  rw [e1]
  have hl : (bvs (l ++ b ++ List.replicate (128 - l.length - b.length) 0)).length = 128 := by simp; omega
  rw [List.setIfInBounds_toArray, List.set_append_right _ _ (by omega), hl]
  unfold wrCells zpad
  congr 1
  have e2 : l ++ b ++ List.replicate (128 - l.length - b.length) 0 = (l ++ (b ++ List.replicate (k - b.length) 0)) ++ List.replicate (128 - (l ++ (b ++ List.replicate (k - b.length) (0 : UInt8))).length) 0 := by
    have : 128 - l.length - b.length = (k - b.length) + (128 - (l ++ (b ++ List.replicate (k - b.length) (0 : UInt8))).length) := by simp; omega
    rw [this, ← List.replicate_append_replicate]
    simp
  rw [e2]
  simp
  omega
set_option maxHeartbeats 1000000 in
set_option maxRecDepth 10000 in
theorem wbytes_bad (g : Nat) (l : List UInt8) (e : Int) (v : Value) (size : Int) (w : World) (he : e ≠ 0) (h : WrAt w g (l, e)) :
    Calls Try.prog 77 #[.pointer (some ⟨g, 0, none⟩), .int .i64 size, v] w (WrTo w g (l, e)) := by
  have c2 := h.c129
  have hne : (e == 0) = false := by simpa using he
  have H := Lib.hid h
  clear h he
  go_enter Try.func77, Try.ntmps77
  go_wp2
  go_end0
  exact ⟨rfl, H.out, OnlyAt.refl _ _⟩
set_option maxHeartbeats 1000000 in
set_option maxRecDepth 10000 in
theorem wbytes_no (g : Nat) (l b : List UInt8) (v : Value) (size : Int) (w : World) (h : WrAt w g (l, 0)) (hb : Byt w v b) (hs : size < b.length ∨ size > 128 - (l.length : Int)) :
    Calls Try.prog 77 #[.pointer (some ⟨g, 0, none⟩), .int .i64 size, v] w (WrTo w g (l, 1)) := by
  have c2 := h.c129
  have c1 := h.c128
  have hl : l.length ≤ 128 := h.1
  have f2 := free_row h.2 129
  obtain ⟨sp, c, rfl, _⟩ := hb.form
  have H := Lib.hid h
  clear h hb
  have hcut : ∀ K : Prop, (size < b.length → K) → ((b.length : Int) ≤ size → 128 - (l.length : Int) < size → K) → K := fun K x y => by
    by_cases k1 : size < b.length
    · exact x k1
    · exact y (by omega) (by omega)
  clear hs
  have hw : wrap64 (128 - (l.length : Int)) = 128 - (l.length : Int) := by rw [← i64_w]; exact IntWalk.i64_in _ (by omega)
  refine hcut _ ?_ ?_ <;> clear hcut <;> intros
  all_goals
    go_enter Try.func77, Try.ntmps77
    go_wp2
    go_end0
    have e1 : w.setCell ⟨g, 129, none⟩ (.int .i64 1) = w.setRow g (wrCells (l, 1)) := by rw [setCell_row H.out.2, wrCells_err_set l 0 1 hl]
    rw [e1]
    exact ⟨rfl, ⟨hl, setRow_heap w g _ _ _ _ H.out.2⟩, (OnlyAt.refl g w).row _⟩
set_option maxHeartbeats 1000000 in
set_option maxRecDepth 10000 in
theorem wbytes_ok (g : Nat) (l b : List UInt8) (v : Value) (k : Nat) (w : World) (h : WrAt w g (l, 0)) (hb : Byt w v b) (hs1 : b.length ≤ k) (hs2 : l.length + k ≤ 128) :
    Calls Try.prog 77 #[.pointer (some ⟨g, 0, none⟩), .int .i64 k, v] w (WrTo w g (l ++ (b ++ List.replicate (k - b.length) 0), 0)) := by
  have c2 := h.c129
  have c1 := h.c128
  have hl : l.length ≤ 128 := h.1
  have f1 := free_row h.2 128
  obtain ⟨sp, c, rfl, hsp⟩ := hb.form
  have H := Lib.hid h
  have HSP := Lib.hid hsp
  obtain ⟨n, hn⟩ : ∃ n, n = l.length := ⟨_, rfl⟩
  have HN := Lib.hid hn
  simp only [← hn] at c1 hs2 hl
  clear h hb hsp hn
  have hw : wrap64 (128 - (n : Int)) = 128 - (n : Int) := by rw [← i64_w]; exact IntWalk.i64_in _ (by omega)
  have hb1 : ¬ ((k : Int) < b.length) := by omega
  have hb2 : ¬ (128 - (n : Int) < (k : Int)) := by omega
  go_enter Try.func77, Try.ntmps77
  go_wp2
  have hcp : (fun w' : World => w'.cell? ⟨g, 128, none⟩ = some (.int .i64 n)) (w.drew.setRow g (splice (wrList (l, 0)) n (bvs b)).toArray) := by
    show _ = _
    rw [cell_row (setRow_heap w.drew g _ _ _ _ H.out.2)]
    rw [List.getElem?_toArray, splice_get_out _ _ _ (by rw [wrList_len (l, 0) H.out.1]; simp; omega) _ (.inr (by simp; omega))]
    have := wrCells_at (l, 0) H.out.1
    rw [← wrList_arr, List.getElem?_toArray] at this
    rw [this, HN.out]
  have HCP := Lib.hid hcp
  clear hcp
  have e1 : (w.drew.setRow g (splice (wrList (l, 0)) n (bvs b)).toArray).setCell ⟨g, 128, none⟩ (.int .i64 ((n : Int) + (k : Int))) = w.drew.setRow g (wrCells (l ++ (b ++ List.replicate (k - b.length) 0), 0)) := by
    rw [setRow_setCell (w := w.drew) H.out.2]
    have hn := HN.out
    have := splice_bytes l b 0 k (by omega) hs1
    rw [Int.natCast_add, ← hn] at this
    rw [this]
  have HE1 := Lib.hid e1
  clear e1
  have z1 : (0 : Int) ≤ (n : Int) := by omega
  have z2 : (n : Int) ≤ 128 := by omega
  go_region_held3 (fun w' => w'.cell? ⟨g, 128, none⟩ = some (.int .i64 n)) (first | exact c1 | exact HCP.out)
    ((refine step_copy_row rfl (.tmp 41) (.tmp 42) 118 118 rfl 5 Try.underlying118 (by kernel_rfl) _ _ _ _ _ _ rfl rfl g n (wrList (l, 0)) 114 H.out.2 (bvs b) (by rw [bvs_length]; exact (Nat.min_eq_left (by omega)).symm) (by intro hp; have hp' : 0 < b.length := by { simpa using hp }; refine ⟨by first | rfl | (simp; omega), ?_⟩; obtain ⟨bb, o, rfl, hr⟩ := HSP.out hp'; exact ⟨_, rfl, hr.cells⟩) (by rw [wrList_len (l, 0) H.out.1]; simp; omega) (bvs_oneCell b) ?_))
  have f3 := free_row (setRow_heap w.drew g _ (splice (wrList (l, 0)) n (bvs b)).toArray _ _ H.out.2) 128
  have hw2 : wrap64 ((n : Int) + (k : Int)) = (n : Int) + (k : Int) := by rw [← i64_w]; exact IntWalk.i64_in _ (by omega)
  go_wp2
  all_goals
    go_end0
    first
      | rw [HE1.out]
      | (subst h; rw [HE1.out])
    have hn := HN.out
    exact ⟨rfl, ⟨by clear hw hw2; simp; omega, setRow_heap w.drew g _ _ _ _ H.out.2⟩, (OnlyAt.refl g w).drew.row _⟩
/-- Bytes into a sector that is written. -/
theorem wbytes_any (g : Nat) (s : WSt) (b : List UInt8) (v : Value) (size : Int) (w : World) (h : WrAt w g s) (hb : Byt w v b) :
    Calls Try.prog 77 #[.pointer (some ⟨g, 0, none⟩), .int .i64 size, v] w (WrTo w g (wBytes s size b)) := by
  obtain ⟨l, e⟩ := s
  by_cases he : e = 0
  · subst he
    by_cases hs : size < b.length ∨ size > 128 - (l.length : Int)
    · have : wBytes (l, 0) size b = (l, 1) := by simp [wBytes, hs]
      rw [this]; exact wbytes_no g l b v size w h hb hs
    · obtain ⟨k, rfl⟩ := Int.eq_ofNat_of_zero_le (show 0 ≤ size by omega)
      have : wBytes (l, 0) k b = (l ++ (b ++ List.replicate (k - b.length) 0), 0) := by simp [wBytes]; omega
      rw [this]; exact wbytes_ok g l b v k w h hb (by omega) (by omega)
  · have : wBytes (l, e) size b = (l, e) := by simp [wBytes, he]
    rw [this]; exact wbytes_bad g l e v size w he h
end Go.Proofs.Ytcpfafmkhegckaa
