/-
  A reader of a sector.
-/
import Derived.Test.YtcpfafmkhegckaaWriterB
namespace Go.Proofs.Ytcpfafmkhegckaa
open Go.RowKit
set_option linter.unusedVariables false
set_option linter.unusedSimpArgs false
/-- A reader's state: the sector's bytes, where it is, the error. -/
structure RSt where
  l : List UInt8
  at_ : Nat
  e : Int
def rdCells (s : RSt) : Array Value := (bvs s.l ++ [Value.int .i64 s.at_, Value.int .i64 s.e]).toArray
def RdrAt (w : World) (g : Nat) (s : RSt) : Prop := s.l.length = 128 ∧ s.at_ ≤ 128 ∧ w.heap[g]? = some (.cells (rdCells s) 246 (0, 0))
set_option maxRecDepth 10000 in
theorem built_reader (l : List UInt8) (hl : l.length = 128) : Try.prog.built 246 [(0, .agg (bvs l).toArray)] = some (rdCells ⟨l, 0, 0⟩) := by
  have h1 : (Try.prog.info? 246).map (·.zero) = some (some (.agg (bvs (List.replicate 128 0) ++ [Value.int .i64 0, Value.int .i64 0]).toArray)) := by kernel_rfl
  have h2 : ∃ fs, Try.prog.underlying 246 = some (.struct fs) ∧ fs.toList.mapM (fun f => (Try.prog.info? f.type).map fun i => (f.offset, i.size)) = some [(0, 128), (128, 1), (129, 1)] := ⟨_, Try.underlying246, by kernel_rfl⟩
  obtain ⟨fs, hu, hp⟩ := h2
  unfold Program.built
  cases hit : Try.prog.info? 246 with
  | none => rw [hit] at h1; cases h1
  | some it =>
    rw [hit] at h1
    have hz : it.zero = some (.agg (bvs (List.replicate 128 0) ++ [Value.int .i64 0, Value.int .i64 0]).toArray) := by simpa using h1
    simp only [hu, hz, hp, Instr.fill, Value.cells]
    have hs : (bvs l).toArray.size = 128 := by simp [hl]
    simp only [List.getElem?_toArray, List.getElem?_cons_zero, hs]
    rw [if_neg (by simp)]
    have := fold_set 0 (bvs l) 0 (bvs (List.replicate 128 0) ++ [Value.int .i64 0, Value.int .i64 0]) (by simp; omega)
    rw [Array.zipIdx_toArray] at *
    simp only [List.foldl_toArray]
    rw [this]
    unfold rdCells
    congr 2
    rw [show 0 + 0 + (bvs l).length = 128 by simp [hl], List.drop_append_of_le_length (by simp), List.drop_of_length_le (by simp)]
    simp
set_option maxHeartbeats 1000000 in
set_option maxRecDepth 10000 in
theorem nread_any (l : List UInt8) (w : World) (hl : l.length = 128) :
    Calls Try.prog 110 #[secV l] w fun e w' => ∃ g, e = .returned (.pointer (some ⟨g, 0, none⟩)) ∧ w.heap.size ≤ g ∧ RdrAt w' g ⟨l, 0, 0⟩ ∧ Below w.heap.size w w' := by
  have HL := Lib.hid hl
  clear hl
  unfold secV
  have HB := Lib.hid (built_reader l HL.out)
  go_enter Try.func110, Try.ntmps110
  go_wp2_with (first
    | (refine wpList_load_row rfl 36 (.tmp 1) rfl w.heap.size rfl _ _ _ _ (heap_alloc_last _ _) Try.underlying36 rfl (by rw [secV_size, HL.out]; exact size_sec) ?_)
    | (refine wpList_build_at rfl 246 _ rfl [(0, .agg (bvs l).toArray)] (by simp [Act.eval, Act.put]) _ HB.out ?_))
  go_ret
  exact ⟨w.heap.size + 1, rfl, by omega, ⟨HL.out, by simp, by have := heap_alloc_last (w.alloc (.cells (bvs l).toArray 36)) (.cells (rdCells ⟨l, 0, 0⟩) 246); simpa using this⟩, ((Below.refl _ _).alloc (Nat.le_refl _) _).alloc (by simp) _⟩
theorem rdCells_size (s : RSt) (h : s.l.length = 128) : (rdCells s).size = 130 := by simp [rdCells, h]
theorem rdCells_at (s : RSt) (h : s.l.length = 128) : (rdCells s)[128]? = some (.int .i64 s.at_) := by
  unfold rdCells
  rw [List.getElem?_toArray, List.getElem?_append_right (by simp [h]), bvs_length, h]; rfl
theorem rdCells_err (s : RSt) (h : s.l.length = 128) : (rdCells s)[129]? = some (.int .i64 s.e) := by
  unfold rdCells
  rw [List.getElem?_toArray, List.getElem?_append_right (by simp [h]), bvs_length, h]; rfl
theorem RdrAt.c128 {w : World} {g : Nat} {s : RSt} (h : RdrAt w g s) : w.cell? ⟨g, 128, none⟩ = some (.int .i64 s.at_) := by rw [cell_row h.2.2, rdCells_at _ h.1]
theorem RdrAt.c129 {w : World} {g : Nat} {s : RSt} (h : RdrAt w g s) : w.cell? ⟨g, 129, none⟩ = some (.int .i64 s.e) := by rw [cell_row h.2.2, rdCells_err _ h.1]
theorem RdrAt.rdb {w : World} {g : Nat} {s : RSt} (h : RdrAt w g s) : RdB w g 0 s.l := fun i hi => by
  rw [Nat.zero_add, cell_row h.2.2]
  unfold rdCells
  rw [List.getElem?_toArray, List.getElem?_append_left (by simpa using hi), bvs_get _ _ hi]
theorem rdCells_setE (s : RSt) (h : s.l.length = 128) (e : Int) : (rdCells s).setIfInBounds 129 (.int .i64 e) = rdCells ⟨s.l, s.at_, e⟩ := by
  unfold rdCells
  rw [List.setIfInBounds_toArray, List.set_append_right _ _ (by simp [h]), bvs_length, h]; rfl
theorem rdCells_setA (s : RSt) (h : s.l.length = 128) (a : Nat) : (rdCells s).setIfInBounds 128 (.int .i64 a) = rdCells ⟨s.l, a, s.e⟩ := by
  unfold rdCells
  rw [List.setIfInBounds_toArray, List.set_append_right _ _ (by simp [h]), bvs_length, h]; rfl
/-- What a number read does and answers. -/
def rNum (s : RSt) (width : Int) : RSt × Nat := if s.e = 0 then (if fitsB 128 s.at_ width then (⟨s.l, s.at_ + width.toNat, 0⟩, part s.l s.at_ width.toNat) else (⟨s.l, s.at_, 1⟩, 0)) else (s, 0)
def RdTo (w : World) (g : Nat) (s : RSt) (v : Value) (e : Ending) (w' : World) : Prop := e = .returned v ∧ RdrAt w' g s ∧ OnlyAt g w w'
set_option maxHeartbeats 1000000 in
set_option maxRecDepth 10000 in
theorem rdnum_bad (g : Nat) (s : RSt) (width : Int) (w : World) (he : s.e ≠ 0) (h : RdrAt w g s) :
    Calls Try.prog 111 #[.pointer (some ⟨g, 0, none⟩), .int .i64 width] w (RdTo w g s (.int .u64 0)) := by
  have c2 := h.c129
  have hne : (s.e == 0) = false := by simpa using he
  have H := Lib.hid h
  clear h he
  go_enter Try.func111, Try.ntmps111
  go_wp2
  go_ret
  exact ⟨rfl, H.out, OnlyAt.refl _ _⟩
set_option maxHeartbeats 1000000 in
set_option maxRecDepth 10000 in
theorem rdnum_ok (g : Nat) (l : List UInt8) (a : Nat) (width : Int) (w : World) (h : RdrAt w g ⟨l, a, 0⟩) (hp : fitsB 128 a width = true) :
    Calls Try.prog 111 #[.pointer (some ⟨g, 0, none⟩), .int .i64 width] w (RdTo w g ⟨l, a + width.toNat, 0⟩ (.int .u64 (part l a width.toNat))) := by
  have hl : l.length = 128 := h.1
  obtain ⟨q1, q2, q3, q4⟩ := (fitsB_iff _ _ _).1 hp
  obtain ⟨k, rfl⟩ := Int.eq_ofNat_of_zero_le (show 0 ≤ width by omega)
  have c1 : w.cell? ⟨g, 128, none⟩ = some (.int .i64 a) := h.c128
  have c2 : w.cell? ⟨g, 129, none⟩ = some (.int .i64 0) := h.c129
  have hN : getN l a k = part l a k := by unfold getN; rw [hl, hp]; rfl
  have hE : getE l.length a k = 0 := by unfold getE; rw [hl, hp]; rfl
  have hb : Byt w.drew (.slice (some ⟨g, 0, none⟩) 128 128) l := .inr ⟨g, 0, 128, by rw [hl], by omega, by decide, h.rdb⟩
  have f1 := free_row h.2.2 128
  have f2 := free_row h.2.2 129
  have HN := Lib.hid hN
  have HE := Lib.hid hE
  have HB := Lib.hid hb
  have HH := Lib.hid h
  have HL := Lib.hid hl
  clear h hp hE hN hb hl
  go_enter Try.func111, Try.ntmps111
  go_wp2
  go_region_held3 (fun w' => w'.cell? ⟨g, 128, none⟩ = some (.int .i64 a)) (first | exact c1)
    ((go_at_call 60; refine (get_any _ l a k w.drew (by rw [HL.out]; decide) HB.out).mono ?_; rintro e w1 ⟨rfl, rfl⟩; rw [HE.out, HN.out]))
  go_wp2
  go_ret
  have hh := HH.out.2.2
  have hl : l.length = 128 := HL.out
  have e1 : (w.setCell ⟨g, 129, none⟩ (.int .i64 0)).setCell ⟨g, 128, none⟩ (.int .i64 ((a : Int) + (k : Int))) = w.setRow g (rdCells ⟨l, a + k, 0⟩) := by
    rw [setCell_row hh, setRow_setCell hh, rdCells_setE ⟨l, a, 0⟩ hl, ← Int.natCast_add, rdCells_setA ⟨l, a, 0⟩ hl]
  rw [e1, Int.toNat_natCast]
  exact ⟨rfl, ⟨hl, (show a + k ≤ 128 by omega), setRow_heap w g _ _ _ _ hh⟩, ((OnlyAt.refl g w).row _).drew⟩
set_option maxHeartbeats 1000000 in
set_option maxRecDepth 10000 in
theorem rdnum_no (g : Nat) (l : List UInt8) (a : Nat) (width : Int) (w : World) (h : RdrAt w g ⟨l, a, 0⟩) (hp : fitsB 128 a width = false) :
    Calls Try.prog 111 #[.pointer (some ⟨g, 0, none⟩), .int .i64 width] w (RdTo w g ⟨l, a, 1⟩ (.int .u64 0)) := by
  have hl : l.length = 128 := h.1
  have c1 : w.cell? ⟨g, 128, none⟩ = some (.int .i64 a) := h.c128
  have c2 : w.cell? ⟨g, 129, none⟩ = some (.int .i64 0) := h.c129
  have hN : getN l a width = 0 := by unfold getN; rw [hl, hp]; rfl
  have hE : getE l.length a width = 1 := by unfold getE; rw [hl, hp]; rfl
  have hb : Byt w.drew (.slice (some ⟨g, 0, none⟩) 128 128) l := .inr ⟨g, 0, 128, by rw [hl], by omega, by decide, h.rdb⟩
  have f1 := free_row h.2.2 128
  have f2 := free_row h.2.2 129
  have HN := Lib.hid hN
  have HE := Lib.hid hE
  have HB := Lib.hid hb
  have HH := Lib.hid h
  have HL := Lib.hid hl
  clear h hp hE hN hb hl
  go_enter Try.func111, Try.ntmps111
  go_wp2
  go_region_held3 (fun w' => w'.cell? ⟨g, 128, none⟩ = some (.int .i64 a)) (first | exact c1)
    ((go_at_call 60; refine (get_any _ l a width w.drew (by rw [HL.out]; decide) HB.out).mono ?_; rintro e w1 ⟨rfl, rfl⟩; rw [HE.out, HN.out]))
  go_wp2
  go_ret
  have hh := HH.out.2.2
  have hl : l.length = 128 := HL.out
  have e1 : w.setCell ⟨g, 129, none⟩ (.int .i64 1) = w.setRow g (rdCells ⟨l, a, 1⟩) := by
    rw [setCell_row hh, rdCells_setE ⟨l, a, 0⟩ hl]
  rw [e1]
  exact ⟨rfl, ⟨hl, HH.out.2.1, setRow_heap w g _ _ _ _ hh⟩, ((OnlyAt.refl g w).row _).drew⟩
/-- A number read. -/
theorem rdnum_any (g : Nat) (s : RSt) (width : Int) (w : World) (h : RdrAt w g s) :
    Calls Try.prog 111 #[.pointer (some ⟨g, 0, none⟩), .int .i64 width] w (RdTo w g (rNum s width).1 (.int .u64 (rNum s width).2)) := by
  obtain ⟨l, a, e⟩ := s
  by_cases he : e = 0
  · subst he
    cases hp : fitsB 128 a width with
    | true =>
      have : rNum ⟨l, a, 0⟩ width = (⟨l, a + width.toNat, 0⟩, part l a width.toNat) := by simp [rNum, hp]
      rw [this]; exact rdnum_ok g l a width w h hp
    | false =>
      have : rNum ⟨l, a, 0⟩ width = (⟨l, a, 1⟩, 0) := by simp [rNum, hp]
      rw [this]; exact rdnum_no g l a width w h hp
  · have : rNum ⟨l, a, e⟩ width = (⟨l, a, e⟩, 0) := by simp [rNum, he]
    rw [this]; exact rdnum_bad g ⟨l, a, e⟩ width w he h
/-! ### Left, Bytes -/
set_option maxHeartbeats 1000000 in
theorem rdleft_any (g : Nat) (s : RSt) (w : World) (h : RdrAt w g s) :
    Calls Try.prog 149 #[.pointer (some ⟨g, 0, none⟩)] w fun e w' => e = .returned (.int .i64 (128 - (s.at_ : Int))) ∧ w = w' := by
  obtain ⟨l, a, e⟩ := s
  have c1 : w.cell? ⟨g, 128, none⟩ = some (.int .i64 a) := h.c128
  have ha : a ≤ 128 := h.2.1
  have hw : wrap64 (128 - (a : Int)) = 128 - (a : Int) := by rw [← i64_w]; exact IntWalk.i64_in _ (by omega)
  clear h
  go_enter Try.func149, Try.ntmps149
  go_wp2
  go_ret
  exact ⟨rfl, rfl⟩
def rBytes (s : RSt) (size : Int) : RSt × List UInt8 := if s.e = 0 then (if size < 0 ∨ size > 128 - (s.at_ : Int) then (⟨s.l, s.at_, 1⟩, []) else (⟨s.l, s.at_ + size.toNat, 0⟩, (s.l.drop s.at_).take size.toNat)) else (s, [])
/-- What a reader hands back in bytes: a row of its own; but for it only the reader is another one. -/
def RdOwn (w : World) (g : Nat) (s : RSt) (r : List UInt8) (e : Ending) (w' : World) : Prop := ∃ v, e = .returned v ∧ w'.ownsRow w.heap.size 5 1 v r.length (bvs r) ∧ RdrAt w' g s ∧ w.grownBy w' (some g)
theorem own_nil (w : World) (base e : Nat) : w.ownsRow base e 1 (.slice none 0 0) 0 (bvs []) := ⟨by simp [bvs], .inl ⟨rfl, rfl⟩⟩
set_option maxHeartbeats 1000000 in
set_option maxRecDepth 10000 in
theorem rdbytes_bad (g : Nat) (s : RSt) (size : Int) (w : World) (he : s.e ≠ 0) (h : RdrAt w g s) :
    Calls Try.prog 112 #[.pointer (some ⟨g, 0, none⟩), .int .i64 size] w (RdOwn w g s []) := by
  have c2 := h.c129
  have hne : (s.e == 0) = false := by simpa using he
  have H := Lib.hid h
  clear h he
  go_enter Try.func112, Try.ntmps112
  go_wp2
  go_ret
  exact ⟨_, rfl, own_nil _ _ _, H.out, World.grownBy.refl _ _⟩
set_option maxHeartbeats 1000000 in
set_option maxRecDepth 10000 in
theorem rdbytes_no (g : Nat) (l : List UInt8) (a : Nat) (size : Int) (w : World) (h : RdrAt w g ⟨l, a, 0⟩) (hs : size < 0 ∨ size > 128 - (a : Int)) :
    Calls Try.prog 112 #[.pointer (some ⟨g, 0, none⟩), .int .i64 size] w (RdOwn w g ⟨l, a, 1⟩ []) := by
  have hl : l.length = 128 := h.1
  have c2 : w.cell? ⟨g, 129, none⟩ = some (.int .i64 0) := h.c129
  have f2 := free_row h.2.2 129
  have H := Lib.hid h
  have HL := Lib.hid hl
  clear h hl
  have hcut : ∀ K : Prop, (size < 0 → K) → (0 ≤ size → 128 - (a : Int) < size → K) → K := fun K x y => by
    by_cases k1 : size < 0
    · exact x k1
    · exact y (by omega) (by omega)
  clear hs
  refine hcut _ ?_ ?_ <;> clear hcut <;> intros
  all_goals
    go_enter Try.func112, Try.ntmps112
    go_wp2_with (go_at_call 149; refine (rdleft_any g ⟨l, a, 0⟩ _ H.out).mono ?_; rintro e w1 ⟨rfl, rfl⟩)
    go_ret
    have e1 : w.setCell ⟨g, 129, none⟩ (.int .i64 1) = w.setRow g (rdCells ⟨l, a, 1⟩) := by
      rw [setCell_row H.out.2.2, rdCells_setE ⟨l, a, 0⟩ HL.out]
    rw [e1]
    exact ⟨_, rfl, own_nil _ _ _, ⟨HL.out, H.out.2.1, setRow_heap w g _ _ _ _ H.out.2.2⟩, ((OnlyAt.refl g w).row _).1⟩
theorem grownBy_then {a b c : World} {r : Option Nat} (h : a.grownBy b r) (k : b.grownBy c none) : a.grownBy c r :=
  ⟨k.os.trans h.os, k.tape.trans h.tape, k.output.trans h.output, Nat.le_trans h.size k.size, fun j hj hne => (k.block j (Nat.lt_of_lt_of_le hj h.size) (by simp)).trans (h.block j hj hne)⟩
theorem RdrAt.grown {w w' : World} {g : Nat} {s : RSt} (h : RdrAt w g s) (k : w.grownBy w' none) : RdrAt w' g s :=
  ⟨h.1, h.2.1, (k.block g (Array.getElem?_eq_some_iff.1 h.2.2).1 (by simp)).trans h.2.2⟩
theorem rd_cut {w : World} {g a k : Nat} {cs : List Value} (h : Rd w (.slice (some ⟨g, 0 + a, none⟩) k (128 - a)) 1 k cs) (hk : a + k ≤ 128) :
    Rd w (.slice (some (if 128 = a then ⟨g, 0, none⟩ else ⟨g, a, none⟩)) (((a : Int) + (k : Int)).toNat - a) (128 - a)) 1 k cs := by
  rw [show ((a : Int) + (k : Int)).toNat - a = k by omega]
  by_cases h1 : 128 = a
  · obtain rfl : k = 0 := by omega
    have hc : cs = [] := List.eq_nil_of_length_eq_zero (by have := h.1; simpa using this)
    subst hc
    rw [if_pos h1]
    exact ⟨rfl, .inr ⟨_, _, rfl, fun j u hu => by simp at hu⟩⟩
  · rw [if_neg h1]; rw [Nat.zero_add] at h; exact h
set_option maxHeartbeats 1000000 in
set_option maxRecDepth 10000 in
theorem rdbytes_ok (g : Nat) (l : List UInt8) (a k : Nat) (w : World) (h : RdrAt w g ⟨l, a, 0⟩) (hk : a + k ≤ 128) :
    Calls Try.prog 112 #[.pointer (some ⟨g, 0, none⟩), .int .i64 k] w (RdOwn w g ⟨l, a + k, 0⟩ ((l.drop a).take k)) := by
  have hl : l.length = 128 := h.1
  have c1 : w.cell? ⟨g, 128, none⟩ = some (.int .i64 a) := h.c128
  have c2 : w.cell? ⟨g, 129, none⟩ = some (.int .i64 0) := h.c129
  have f1 := free_row h.2.2 128
  have e1 : w.setCell ⟨g, 128, none⟩ (.int .i64 ((a : Int) + (k : Int))) = w.setRow g (rdCells ⟨l, a + k, 0⟩) := by
    rw [setCell_row h.2.2, ← Int.natCast_add, rdCells_setA ⟨l, a, 0⟩ hl]
  have H2 : RdrAt (w.setRow g (rdCells ⟨l, a + k, 0⟩)) g ⟨l, a + k, 0⟩ := ⟨hl, hk, setRow_heap w g _ _ _ _ h.2.2⟩
  have hg2 : w.grownBy (w.setRow g (rdCells ⟨l, a + k, 0⟩)) (some g) := ((OnlyAt.refl g w).row _).1
  have hz2 : (w.setRow g (rdCells ⟨l, a + k, 0⟩)).heap.size = w.heap.size := setRow_size _ _ _
  obtain ⟨w2, hw2⟩ : ∃ w2, w2 = w.setRow g (rdCells ⟨l, a + k, 0⟩) := ⟨_, rfl⟩
  rw [← hw2] at e1 H2 hg2 hz2
  clear hw2
  have c3 : w2.drew.cell? ⟨g, 128, none⟩ = some (.int .i64 ((a : Int) + (k : Int))) := by have := H2.c128; rw [show ((⟨l, a + k, 0⟩ : RSt).at_ : Int) = (a : Int) + (k : Int) by simp] at this; exact this
  have hrd : Rd w2.drew (.slice (some ⟨g, 0 + a, none⟩) k (128 - a)) 1 k (bvs ((l.drop a).take k)) := ⟨by simp; omega, .inr ⟨_, _, rfl, fun j u hu => by
    have hj : j < k := by have := (List.getElem?_eq_some_iff.1 hu).1; simp at this; omega
    have hq := (H2.rdb.sub a k (by rw [hl]; exact hk)) j (by simp; omega)
    rw [add_at]
    refine Eq.trans hq ?_
    rw [← hu, bvs_get _ _ (by simp; omega)]⟩⟩
  have hin := h.2.2
  have HE := Lib.hid e1
  have H2' := Lib.hid H2
  have HG2 := Lib.hid hg2
  have HZ2 := Lib.hid hz2
  have HRD := Lib.hid hrd
  have HL := Lib.hid h
  clear e1 H2 hg2 hz2 hrd h hin
  have hw1 : wrap64 (128 - (a : Int)) = 128 - (a : Int) := by rw [← i64_w]; exact IntWalk.i64_in _ (by omega)
  have hw2 : wrap64 ((a : Int) + (k : Int)) = (a : Int) + (k : Int) := by rw [← i64_w]; exact IntWalk.i64_in _ (by omega)
  have hb1 : ¬ ((k : Int) < 0) := by omega
  have hb2 : ¬ (128 - (a : Int) < (k : Int)) := by omega
  go_enter Try.func112, Try.ntmps112
  go_wp2_with (go_at_call 149; refine (rdleft_any g ⟨l, a, 0⟩ _ HL.out).mono ?_; rintro e w1 ⟨rfl, rfl⟩)
  rw [HE.out]
  clear hw1 hw2
  have hw3 : IntKind.i64.wrap (a : Int) = (a : Int) := IntWalk.i64_in _ (by omega)
  have z1 : (0 : Int) ≤ (a : Int) := by omega
  have z2 : (a : Int) ≤ (a : Int) + (k : Int) := by omega
  have z3 : (a : Int) + (k : Int) ≤ 128 := by omega
  go_region_held3 (fun w' => w'.cell? ⟨g, 128, none⟩ = some (.int .i64 ((a : Int) + (k : Int)))) (first | exact c3 | exact hd3)
    ((refine step_append_rd rfl (.const (.slice none 0 0)) (.tmp 49) 118 rfl w.heap.size 5 (.int .u8 0) 1 1 Try.underlying118 infoU8 rfl (by decide) _ 0 [] rfl (own_nil _ _ _) _ k (bvs ((l.drop a).take k)) rfl ?hu (bvs_oneCell _) ?c2 (by decide) ?c3 ?_; (case hu => (have hq := rd_cut HRD.out hk; simpa [Act.eval] using hq)); (case c2 => omega); (case c3 => rw [← HZ2.out]; exact Nat.le_refl _); intro v3 w3 hown3 hbel3 hg3; have hd3 : w3.cell? ⟨g, 128, none⟩ = some (.int .i64 ((a : Int) + (k : Int))) := (RdrAt.grown (w := w2.drew) H2'.out hg3).c128.trans (by simp)))
  go_wp2
  all_goals
    go_ret
    simp only [List.nil_append, Nat.zero_add] at hown3
    have hlen : ((l.drop a).take k).length = k := by simp; have := HL.out.1; simp at this; omega
    refine ⟨_, rfl, ?_, RdrAt.grown (w := w2.drew) H2'.out hg3, grownBy_then HG2.out (grownBy_then (a := w2) (b := w2.drew) ⟨rfl, rfl, rfl, Nat.le_refl _, fun _ _ _ => rfl⟩ hg3)⟩
    rw [hlen]; exact hown3
/-- Bytes read. -/
theorem rdbytes_any (g : Nat) (s : RSt) (size : Int) (w : World) (h : RdrAt w g s) :
    Calls Try.prog 112 #[.pointer (some ⟨g, 0, none⟩), .int .i64 size] w (RdOwn w g (rBytes s size).1 (rBytes s size).2) := by
  obtain ⟨l, a, e⟩ := s
  by_cases he : e = 0
  · subst he
    by_cases hs : size < 0 ∨ size > 128 - (a : Int)
    · have : rBytes ⟨l, a, 0⟩ size = (⟨l, a, 1⟩, []) := by simp [rBytes]; omega
      rw [this]; exact rdbytes_no g l a size w h hs
    · obtain ⟨k, rfl⟩ := Int.eq_ofNat_of_zero_le (show 0 ≤ size by omega)
      have : rBytes ⟨l, a, 0⟩ (k : Int) = (⟨l, a + k, 0⟩, (l.drop a).take k) := by
        unfold rBytes; rw [if_pos rfl, if_neg hs]; simp
      rw [this]; exact rdbytes_ok g l a k w h (by omega)
  · have : rBytes ⟨l, a, e⟩ size = (⟨l, a, e⟩, []) := by simp [rBytes, he]
    rw [this]; exact rdbytes_bad g ⟨l, a, e⟩ size w he h
end Go.Proofs.Ytcpfafmkhegckaa
