/-
  DiskSafe: a disk, and the rows of what was safe and of what was written.
-/
import Derived.Test.YtiehfaiadhhndaaDsSa
import Derived.Test.YtiehfaiadhhndaaTwC
namespace Go.Proofs.Ytiehfaiadhhndaa
open Go.RowKit
set_option linter.unusedVariables false
set_option linter.unusedSimpArgs false
set_option linter.unnecessarySimpa false
theorem PlSt.up {w wr : World} {p gS p6 n k : Nat} {vq vS vQ : Value} {D : Dk} (h : PlSt w p gS p6 n k vq vS vQ D wr) : PlSt w p gS p6 n (k + 1) vq vS vQ D wr :=
  ⟨h.disk, h.ref, h.ok.up, h.len, h.box, h.below, h.n6⟩
theorem PlSt.drewN' {w wr : World} {p gS p6 n k : Nat} {vq vS vQ : Value} {D : Dk} (h : PlSt w p gS p6 n k vq vS vQ D wr) (m : Nat) : PlSt w p gS p6 n k vq vS vQ D (wr.drewN m) :=
  ⟨h.disk.drewN m, h.ref.keep ((Keep.refl _ _).drewN m), h.ok, h.len, h.box, bdrewN h.below m, h.n6⟩
def prF (x : Int × Int) : List Value := [.int .i64 x.1, .int .i64 x.2]
theorem prF_len (x : Int × Int) : (prF x).length = 2 := rfl
theorem prF_one (x : Int × Int) : ∀ u ∈ prF x, u.oneCell' = true := by intro u hu; simp [prF] at hu; rcases hu with rfl | rfl <;> rfl
/-- A calm disk that was flushed, and the row of its first sectors. -/
structure SfR (w : World) (B p gS : Nat) (vq v10 : Value) (D : Dk) (n : Nat) (wr : World) : Prop where
  disk : DkAt wr w.heap.size p gS vq D
  row : wr.ownsRow B 31 128 v10 n (rowsOf scF (D.S.take n))
  a10 : ∀ k, v10.ownBlock = some k → ¬ Ft p gS vq k
  below : Below w.heap.size w wr
  wB : w.heap.size ≤ B
  fB : ∀ k, Ft p gS vq k → k < B
  bB : B ≤ wr.heap.size
section
variable {w wr W W2 : World} {B p gS n j : Nat} {vq v10 v14 v15 v' : Value} {D : Dk} {S1 Z : List Sc} {P : List (Int × Int)}
theorem SfR.below' (h : SfR w B p gS vq v10 D n wr) (hb : Below wr.heap.size wr W) : SfR w B p gS vq v10 D n W :=
  ⟨h.disk.below hb, own_below h.row hb, h.a10, bnext h.below hb, h.wB, h.fB, Nat.le_trans h.bB hb.size⟩
/-- Another sector is laid behind them. -/
theorem SfR.append {s : Sc} (h : SfR w B p gS vq v10 D n wr) (hs : D.S[n]? = some s) (hg : wr.grownBy W v10.ownBlock) (ho : W.ownsRow B 31 128 v' (n + 1) (rowsOf scF (D.S.take n) ++ scF s)) :
    SfR w B p gS vq v' D (n + 1) W := by
  have hk : Keep (fun k => v10.ownBlock = some k) wr W := ⟨hg.os, hg.tape, hg.output, hg.size, fun k hk hf => hg.block k hk (fun e => hf e.symm)⟩
  have hf := Ft.lt h.disk
  have hge : ∀ k, v10.ownBlock = some k → B ≤ k := fun k e => (h.row.lt k e).1
  refine ⟨h.disk.keep hk (fun e => h.a10 _ e (.inl rfl)) (fun e => h.a10 _ e (.inr (.inl rfl))) (fun k hk e => h.a10 _ e (.inr (.inr hk))), ?_, ?_, h.below.trans (hk.below (fun k e => Nat.le_trans h.wB (hge k e)) (h.below.size)), h.wB, h.fB, Nat.le_trans h.bB hg.size⟩
  · rw [← rowsOf_snoc] at ho
    rwa [List.take_add_one, hs]
  · intro k e he
    have h1 := (ho.lt k e).1
    have h2 := h.fB k he
    omega
theorem rd_calm {D : Dk} (hq : D.Q = []) (hc : D.dead = false) (n : Nat) (s : Sc) (hs : D.S[n]? = some s) : mayE D (n : Int) = 0 ∧ readS D (n : Int) = s := by
  have hl := (List.getElem?_eq_some_iff.1 hs).1
  have hm : mayE D (n : Int) = 0 := by
    unfold mayE
    rw [if_neg (by omega), hc]; rfl
  refine ⟨hm, ?_⟩
  unfold readS
  rw [if_pos hm, hq]
  show D.S.getD ((n : Int)).toNat sc0 = s
  rw [Int.toNat_natCast, List.getD_eq_getElem?_getD, hs]; rfl
/-- A disk that is written to, the row of what was safe, the rows of what was written. -/
structure SfW (w : World) (B p gS : Nat) (vq v10 v14 v15 : Value) (S1 : List Sc) (D : Dk) (P : List (Int × Int)) (Z : List Sc) (wr : World) : Prop where
  disk : DkAt wr w.heap.size p gS vq D
  r10 : wr.ownsRow B 31 128 v10 S1.length (rowsOf scF S1)
  r14 : wr.ownsRow B 57 2 v14 P.length (rowsOf prF P)
  r15 : wr.ownsRow B 31 128 v15 Z.length (rowsOf scF Z)
  a10 : ∀ k, v10.ownBlock = some k → ¬ Ft p gS vq k
  a14 : ∀ k, v14.ownBlock = some k → ¬ Ft p gS vq k
  a15 : ∀ k, v15.ownBlock = some k → ¬ Ft p gS vq k
  b14 : ∀ k, v14.ownBlock = some k → v10.ownBlock ≠ some k
  b15 : ∀ k, v15.ownBlock = some k → v10.ownBlock ≠ some k
  b45 : ∀ k, v14.ownBlock = some k → v15.ownBlock ≠ some k
  below : Below w.heap.size w wr
  wB : w.heap.size ≤ B
  bB : B ≤ wr.heap.size
theorem SfW.below' (h : SfW w B p gS vq v10 v14 v15 S1 D P Z wr) (hb : Below wr.heap.size wr W) : SfW w B p gS vq v10 v14 v15 S1 D P Z W :=
  ⟨h.disk.below hb, own_below h.r10 hb, own_below h.r14 hb, own_below h.r15 hb, h.a10, h.a14, h.a15, h.b14, h.b15, h.b45, bnext h.below hb, h.wB, Nat.le_trans h.bB hb.size⟩
/-- The disk is another one behind a deed. -/
theorem SfW.step {D' : Dk} {v : Value} {e : Ending} (h : SfW w B p gS vq v10 v14 v15 S1 D P Z wr) (hd : DTo wr w.heap.size p gS vq D' v e W) : ∃ vq', SfW w B p gS vq' v10 v14 v15 S1 D' P Z W := by
  obtain ⟨_, vq', h1, h2, h3⟩ := hd
  have hge := Ft.ge h.disk
  have far : ∀ (v : Value) {T k m : Nat} {xs : List Value}, wr.ownsRow B T k v m xs → (∀ k, v.ownBlock = some k → ¬ Ft p gS vq k) → ∀ k, v.ownBlock = some k → ¬ Ft p gS vq' k := fun v T k m xs ho ha k hk hf => by
    rcases hf with e | e | e
    · exact ha k hk (.inl e)
    · exact ha k hk (.inr (.inl e))
    · rcases h3 k e with e | e
      · exact ha k hk (.inr (.inr e))
      · have := (ho.lt k hk).2; omega
  have mv : ∀ (v : Value) {T k m : Nat} {xs : List Value}, wr.ownsRow B T k v m xs → (∀ k, v.ownBlock = some k → ¬ Ft p gS vq k) → W.ownsRow B T k v m xs := fun v T k m xs ho ha =>
    own_move ho (fun k hk => h2.block k (ho.lt k hk).2 (ha k hk))
  exact ⟨vq', h1, mv _ h.r10 h.a10, mv _ h.r14 h.a14, mv _ h.r15 h.a15, far _ h.r10 h.a10, far _ h.r14 h.a14, far _ h.r15 h.a15, h.b14, h.b15, h.b45, h.below.trans (h2.below hge h.below.size), h.wB, Nat.le_trans h.bB h2.size⟩
theorem SfW.app14 {q : Int × Int} (h : SfW w B p gS vq v10 v14 v15 S1 D P Z wr) (hg : wr.grownBy W v14.ownBlock) (ho : W.ownsRow B 57 2 v' (P.length + 1) (rowsOf prF P ++ prF q)) (hat : v'.ownBlock = v14.ownBlock ∨ v'.ownBlock = some wr.heap.size) :
    SfW w B p gS vq v10 v' v15 S1 D (P ++ [q]) Z W := by
  have hk : Keep (fun k => v14.ownBlock = some k) wr W := ⟨hg.os, hg.tape, hg.output, hg.size, fun k hk hf => hg.block k hk (fun e => hf e.symm)⟩
  have hf := Ft.lt h.disk
  have hge : ∀ k, v14.ownBlock = some k → B ≤ k := fun k e => (h.r14.lt k e).1
  refine ⟨h.disk.keep hk (fun e => h.a14 _ e (.inl rfl)) (fun e => h.a14 _ e (.inr (.inl rfl))) (fun k hk e => h.a14 _ e (.inr (.inr hk))), own_move h.r10 (fun k e => hk.block k (h.r10.lt k e).2 (fun e2 => h.b14 k e2 e)), ?_, own_move h.r15 (fun k e => hk.block k (h.r15.lt k e).2 (fun e2 => h.b45 k e2 e)), h.a10, ?_, h.a15, ?_, h.b15, ?_, h.below.trans (hk.below (fun k e => Nat.le_trans h.wB (hge k e)) h.below.size), h.wB, Nat.le_trans h.bB hg.size⟩
  · rw [← rowsOf_snoc] at ho
    simpa using ho
  · intro k e he
    rcases hat with e2 | e2
    · exact h.a14 k (e2 ▸ e) he
    · rw [e2] at e; cases e; exact Nat.lt_irrefl _ (hf _ he)
  · intro k e he
    rcases hat with e2 | e2
    · exact h.b14 k (e2 ▸ e) he
    · rw [e2] at e; cases e; exact Nat.lt_irrefl _ (h.r10.lt _ he).2
  · intro k e he
    rcases hat with e2 | e2
    · exact h.b45 k (e2 ▸ e) he
    · rw [e2] at e; cases e; exact Nat.lt_irrefl _ (h.r15.lt _ he).2
theorem SfW.app15 {s : Sc} (h : SfW w B p gS vq v10 v14 v15 S1 D P Z wr) (hg : wr.grownBy W v15.ownBlock) (ho : W.ownsRow B 31 128 v' (Z.length + 1) (rowsOf scF Z ++ scF s)) (hat : v'.ownBlock = v15.ownBlock ∨ v'.ownBlock = some wr.heap.size) :
    SfW w B p gS vq v10 v14 v' S1 D P (Z ++ [s]) W := by
  have hk : Keep (fun k => v15.ownBlock = some k) wr W := ⟨hg.os, hg.tape, hg.output, hg.size, fun k hk hf => hg.block k hk (fun e => hf e.symm)⟩
  have hf := Ft.lt h.disk
  have hge : ∀ k, v15.ownBlock = some k → B ≤ k := fun k e => (h.r15.lt k e).1
  refine ⟨h.disk.keep hk (fun e => h.a15 _ e (.inl rfl)) (fun e => h.a15 _ e (.inr (.inl rfl))) (fun k hk e => h.a15 _ e (.inr (.inr hk))), own_move h.r10 (fun k e => hk.block k (h.r10.lt k e).2 (fun e2 => h.b15 k e2 e)), own_move h.r14 (fun k e => hk.block k (h.r14.lt k e).2 (fun e2 => h.b45 k e e2)), ?_, h.a10, h.a14, ?_, h.b14, ?_, ?_, h.below.trans (hk.below (fun k e => Nat.le_trans h.wB (hge k e)) h.below.size), h.wB, Nat.le_trans h.bB hg.size⟩
  · rw [← rowsOf_snoc] at ho
    simpa using ho
  · intro k e he
    rcases hat with e2 | e2
    · exact h.a15 k (e2 ▸ e) he
    · rw [e2] at e; cases e; exact Nat.lt_irrefl _ (hf _ he)
  · intro k e he
    rcases hat with e2 | e2
    · exact h.b15 k (e2 ▸ e) he
    · rw [e2] at e; cases e; exact Nat.lt_irrefl _ (h.r10.lt _ he).2
  · intro k e he
    rcases hat with e2 | e2
    · exact h.b45 k e (e2 ▸ he)
    · rw [e2] at he; cases he; exact Nat.lt_irrefl _ (h.r14.lt _ e).2
theorem SfR.arm {D3 : Dk} {v : Value} {e : Ending} (h : SfR w B p gS vq v10 D n wr) (hd : HeadTo wr w.heap.size p gS vq D3 v e W) (hn : n = D.S.length) : SfW w B p gS vq v10 (.slice none 0 0) (.slice none 0 0) D.S D3 [] [] W := by
  obtain ⟨_, h1, h2⟩ := hd
  have hp : p < B := h.fB p (.inl rfl)
  refine ⟨h1, ?_, World.ownsRow_nil _ _ _ _, World.ownsRow_nil _ _ _ _, h.a10, fun k hk => by (cases hk), fun k hk => by (cases hk), fun k hk => by (cases hk), fun k hk => by (cases hk), fun k hk => by (cases hk), h.below.trans (h2.below (fun k e => by rw [e]; exact h.disk.bp) h.below.size), h.wB, Nat.le_trans h.bB h2.size⟩
  have := own_move (w' := W) h.row (fun k e => h2.block k (h.row.lt k e).2 (fun e2 => by have := (h.row.lt k e).1; omega))
  rw [hn, List.take_length] at this
  exact this
theorem SfW.keep {F : Nat → Prop} (h : SfW w B p gS vq v10 v14 v15 S1 D P Z wr) (hk : Keep F wr W) (hF : ∀ k, (Ft p gS vq k ∨ v10.ownBlock = some k ∨ v14.ownBlock = some k ∨ v15.ownBlock = some k) → ¬ F k) (hge : ∀ k, F k → w.heap.size ≤ k) :
    SfW w B p gS vq v10 v14 v15 S1 D P Z W :=
  ⟨h.disk.keep hk (hF _ (.inl (.inl rfl))) (hF _ (.inl (.inr (.inl rfl)))) (fun k hk => hF _ (.inl (.inr (.inr hk)))),
    own_move h.r10 (fun k e => hk.block k (h.r10.lt k e).2 (hF k (.inr (.inl e)))), own_move h.r14 (fun k e => hk.block k (h.r14.lt k e).2 (hF k (.inr (.inr (.inl e))))), own_move h.r15 (fun k e => hk.block k (h.r15.lt k e).2 (hF k (.inr (.inr (.inr e))))),
    h.a10, h.a14, h.a15, h.b14, h.b15, h.b45, h.below.trans (hk.below hge h.below.size), h.wB, Nat.le_trans h.bB hk.size⟩
theorem keep_setRow (wr : World) (g : Nat) (cs : Array Value) : Keep (fun k => k = g) wr (wr.setRow g cs) := by
  refine ⟨rfl, rfl, rfl, ?_, fun k hk hf => ?_⟩
  · simp [World.setRow]
  · simp only [World.setRow]
    rw [Array.getElem?_modify, if_neg (fun e => hf e.symm)]
/-- What is kept of a row's block. -/
theorem own_ne_block {T k m : Nat} {v : Value} {xs : List Value} {g : Nat} {o : Obj} (ho : wr.ownsRow B T k v m xs) (hg : wr.grownBy W v.ownBlock) (h : wr.heap[g]? = some o) (hne : v.ownBlock ≠ some g) : W.heap[g]? = some o :=
  (hg.block g (Array.getElem?_eq_some_iff.1 h).1 (fun e => hne e.symm)).trans h
end
theorem own_readF {α : Type} {f : α → List Value} {kk : Nat} (hk : ∀ x, (f x).length = kk) {w : World} {base T c : Nat} {s : Option Addr} {L : List α} {n : Nat} (h : w.ownsRow base T kk (.slice s n c) n (rowsOf f L)) (hn : n = L.length) : ReadAt w s f kk L := by
  obtain ⟨A9, c9, e9, -, -, -, h9, h10⟩ := own_rows (F := fun _ => False) hk h hn (fun _ _ => id)
  injection e9 with e9
  subst e9
  exact h9
theorem want_no {z : Sc} {Q : List Wr} {K : List Bool} {n : Int} {k : Nat} (h : (Q.getD k wr0).at_ ≠ n ∨ K.getD k false = false) : wantN z Q K n (k + 1) = wantN z Q K n k := by
  show (if (Q.getD k wr0).at_ = n ∧ K.getD k false = true then (Q.getD k wr0).s else wantN z Q K n k) = _
  rw [if_neg]
  rintro ⟨h1, h2⟩
  rcases h with h | h
  · exact h h1
  · rw [h] at h2; cases h2
theorem want_yes {z : Sc} {Q : List Wr} {K : List Bool} {n : Int} {k : Nat} (h1 : (Q.getD k wr0).at_ = n) (h2 : K.getD k false = true) : wantN z Q K n (k + 1) = (Q.getD k wr0).s := by
  show (if (Q.getD k wr0).at_ = n ∧ K.getD k false = true then (Q.getD k wr0).s else wantN z Q K n k) = _
  rw [if_pos ⟨h1, h2⟩]
theorem range_bel {w W : World} {g o : Nat} {cs : List Value} (h : w.rangeAt g o cs) (hb : Below w.heap.size w W) : W.rangeAt g o cs := fun j v hv => by
  have hc := h j v hv
  exact (hb.cell (p := ⟨g, o + j, none⟩) (World.block_lt_of_cell? w _ hc)).trans hc
theorem range_grow {w W : World} {g o B T k m : Nat} {v : Value} {xs cs : List Value} (ho : w.ownsRow B T k v m xs) (hg : w.grownBy W v.ownBlock) (h : w.rangeAt g o cs) (hne : v.ownBlock ≠ some g) : W.rangeAt g o cs := fun j v hv =>
  hg.cell (h j v hv) (fun e => hne e.symm)
theorem info_pr : (Try.prog.info? 57).map (fun i => (i.zero, i.size, i.bytes)) = some (some (.agg #[.int .i64 0, .int .i64 0]), 2, 16) := by kernel_rfl
theorem built_pr (x : Int × Int) : Try.prog.built 57 [(0, .int .i64 x.1), (1, .int .i64 x.2)] = some (prF x).toArray := by kernel_rfl
theorem mod9 (x : Int) : ∃ t : Nat, t < 9 ∧ (x.tmod 9 + 9) % 9 = (t : Int) ∧ -8 ≤ x.tmod 9 ∧ x.tmod 9 ≤ 8 := by
  have h1 := Int.tmod_lt_of_pos x (show (0 : Int) < 9 by decide)
  have h2 := Int.tmod_lt_of_pos (-x) (show (0 : Int) < 9 by decide)
  rw [Int.neg_tmod] at h2
  exact ⟨((x.tmod 9 + 9) % 9).toNat, by omega, by omega, by omega, by omega⟩
/-- How many were done, whatever was written. -/
structure SfD (S1 : List Sc) (D : Dk) (P : List (Int × Int)) (Z : List Sc) (j : Nat) : Prop where
  sec : D.S = S1
  zq : Z = D.Q.map Wr.s
  pq : P.map Prod.fst = D.Q.map Wr.at_
  ql : D.Q.length ≤ j
  qat : ∀ q ∈ D.Q, 0 ≤ q.at_ ∧ q.at_ < 9
  arm : -1 ≤ D.arm ∧ D.arm ≤ 100
  deeds : 0 ≤ D.deeds ∧ D.deeds ≤ 100 + j
theorem deedD_QS (D : Dk) : (deedD D).1.Q = D.Q ∧ (deedD D).1.S = D.S := by unfold deedD; split <;> exact ⟨rfl, rfl⟩
theorem deedD_arm {D : Dk} {m : Nat} (h1 : -1 ≤ D.arm ∧ D.arm ≤ 100) (h2 : 0 ≤ D.deeds ∧ D.deeds ≤ m) : (-1 ≤ (deedD D).1.arm ∧ (deedD D).1.arm ≤ 100) ∧ (0 ≤ (deedD D).1.deeds ∧ (deedD D).1.deeds ≤ m + 1) := by
  unfold deedD
  split
  · exact ⟨h1, h2.1, by have := h2.2; show D.deeds ≤ _; omega⟩
  · refine ⟨?_, by show 0 ≤ D.deeds + 1; omega, by show D.deeds + 1 ≤ _; omega⟩
    show -1 ≤ (if 0 < D.arm then D.arm - 1 else D.arm) ∧ (if 0 < D.arm then D.arm - 1 else D.arm) ≤ 100
    split <;> omega
/-- A write: it came to the queue, or nothing turned. -/
theorem SfD.write {S1 : List Sc} {D : Dk} {P : List (Int × Int)} {Z : List Sc} {j : Nat} (h : SfD S1 D P Z j) (h9 : S1.length = 9) (a : Nat) (ha : a < 9) (s : Sc) (i : Int) :
    (SfD S1 (writeD D (a : Int) s).1 (P ++ [((a : Int), i)]) (Z ++ [s]) (j + 1) ∧ (writeD D (a : Int) s).1.Q.length = Z.length + 1) ∨ (SfD S1 (writeD D (a : Int) s).1 P Z (j + 1) ∧ (writeD D (a : Int) s).1.Q.length = Z.length) := by
  have hzl : Z.length = D.Q.length := by rw [h.zq]; simp
  unfold writeD
  split
  · refine .inl ⟨?_, ?_⟩
    · obtain ⟨q1, q2⟩ := deedD_QS { D with Q := D.Q ++ [⟨(a : Int), s⟩] }
      obtain ⟨a1, a2⟩ := deedD_arm (D := { D with Q := D.Q ++ [⟨(a : Int), s⟩] }) (m := 100 + j) h.arm ⟨h.deeds.1, by have := h.deeds.2; push_cast; exact this⟩
      refine ⟨by rw [q2]; exact h.sec, by rw [q1, List.map_append, h.zq]; rfl, by rw [q1, List.map_append, List.map_append, h.pq]; rfl, by rw [q1]; have := h.ql; simp; omega, ?_, a1, ⟨a2.1, by have := a2.2; push_cast at *; omega⟩⟩
      intro q hq
      rw [q1] at hq
      rcases List.mem_append.1 hq with hq | hq
      · exact h.qat q hq
      · rw [List.mem_singleton] at hq
        subst hq
        exact ⟨by show (0 : Int) ≤ (a : Int); omega, by show (a : Int) < 9; omega⟩
    · rw [(deedD_QS _).1, hzl]; simp
  · exact .inr ⟨⟨h.sec, h.zq, h.pq, Nat.le_succ_of_le h.ql, h.qat, h.arm, ⟨h.deeds.1, by have := h.deeds.2; push_cast; omega⟩⟩, by rw [hzl]⟩
/-- How the disk is behind the crash. -/
theorem crash_facts {S1 : List Sc} {D : Dk} {P : List (Int × Int)} {Z : List Sc} {j : Nat} (h : SfD S1 D P Z j) (h9 : S1.length = 9) (hj : j ≤ 40) (K : List Bool) :
    DOk D 200 ∧ (crashD D K).Q = [] ∧ (crashD D K).dead = false ∧ (crashD D K).S.length = 9 ∧ ∀ n, n < 9 → (crashD D K).S[n]? = some (wantN (S1.getD n sc0) D.Q K (n : Int) D.Q.length) := by
  have hql := h.ql
  refine ⟨⟨⟨h.arm.1, by have := h.arm.2; omega⟩, ⟨h.deeds.1, by have := h.deeds.2; show D.deeds ≤ ((200 : Nat) : Int); omega⟩, by omega, fun q hq => by rw [h.sec, h9]; exact h.qat q hq⟩, rfl, rfl, ?_, fun n hn => ?_⟩
  · show (layS D.S _).length = 9
    rw [layS_len, h.sec, h9]
  · have hl := lay_want S1 D.Q K n (by omega) (fun q hq => (h.qat q hq).1) D.Q.length (Nat.le_refl _)
    show (layS D.S (keptN D.Q K D.Q.length))[n]? = _
    have hlen : n < (layS S1 (keptN D.Q K D.Q.length)).length := by rw [layS_len]; omega
    rw [h.sec, List.getElem?_eq_getElem hlen]
    rw [List.getD_eq_getElem?_getD, List.getElem?_eq_getElem hlen] at hl
    exact congrArg some hl
end Go.Proofs.Ytiehfaiadhhndaa
