/-
  Disk: Write.
-/
import Derived.Test.YtiehfaiadhhndaaDskD
import Derived.Test.YtiehfaiadhhndaaRegF
import Derived.Maps.AppendAt
namespace Go.Proofs.Ytiehfaiadhhndaa
open Go.RowKit
set_option linter.unusedVariables false
set_option linter.unusedSimpArgs false
theorem info_wr3 : (Try.prog.info? 71).map (fun i => (i.zero, i.size, i.bytes)) = some (some (.agg (wrF wr0).toArray), 129, 136) := by kernel_rfl
set_option maxRecDepth 10000 in
theorem built_wr (q : Wr) : Try.prog.built 71 [(0, .int .i64 q.at_), (1, .agg (scF q.s).toArray)] = some (wrF q).toArray := by
  have h1 : (Try.prog.info? 71).map (·.zero) = some (some (.agg (wrF wr0).toArray)) := by kernel_rfl
  have h2 : ∃ fs, Try.prog.underlying 71 = some (.struct fs) ∧ fs.toList.mapM (fun f => (Try.prog.info? f.type).map fun i => (f.offset, i.size)) = some [(0, 1), (1, 128)] := ⟨_, Try.underlying71, by kernel_rfl⟩
  obtain ⟨fs, hu, hp⟩ := h2
  unfold Program.built
  cases hit : Try.prog.info? 71 with
  | none => rw [hit] at h1; cases h1
  | some it =>
    rw [hit] at h1
    have hz : it.zero = some (.agg (wrF wr0).toArray) := by simpa using h1
    have hs : (scF q.s).toArray.size = 128 := by simp [scF_len]
    simp only [hu, hz, hp, Instr.fill, Value.cells]
    simp only [List.getElem?_toArray, List.getElem?_cons_zero, List.getElem?_cons_succ, hs]
    have hw0 : (wrF wr0).length = 129 := wrF_len _
    rw [if_neg (by simp; intro h; rw [h] at hw0; simp at hw0), if_neg (by simp [hw0])]
    have := fold_set 1 (scF q.s) 0 (.int .i64 q.at_ :: scF wr0.s) (by simp [scF_len])
    have e0 : Array.foldl (fun (cs : Array Value) (p : Value × Nat) => cs.setIfInBounds (0 + p.2) p.1) (wrF wr0).toArray (#[Value.int .i64 q.at_].zipIdx) = (.int .i64 q.at_ :: scF wr0.s).toArray := by
      simp [wrF]
    rw [Array.zipIdx_toArray] at *
    simp only [List.foldl_toArray] at *
    rw [e0]
    try rw [Array.zipIdx_toArray]
    try simp only [List.foldl_toArray]
    rw [this]
    unfold wrF
    congr 2
    rw [List.drop_eq_nil_of_le (by simp [scF_len])]
    simp
/-- 'append(s, x)', s the call's own, x one element in a block of its own: as one step of a region that draws. -/
theorem step_append_at {P : Program} {ops : Array Oper} {o : Oper} {a : Act} {w : World} {K : Act → World → Prop} {Q : Exit → Act → World → Prop} {E : Prop} (hgd : o.guard = none) (s x : Operand) (t : TypeId)
    (ho : o.op = .call { callee := .builtin .append, args := #[s, x], argTypes := #[t, t] })
    (base : Nat) (e : TypeId) (z : Value) (size bytes : Nat) (ht : P.underlying t = some (.slice e)) (hinfo : (P.info? e).map (fun i => (i.zero, i.size, i.bytes)) = some (some z, size, bytes))
    (hzs : z.cells.size = size) (hsz : 0 < size)
    (v : Value) (n : Nat) (xs : List Value) (hs : a.eval s = v) (hown : w.ownsRow base e size v n xs)
    (g c : Nat) (news : List Value) (hx : a.eval x = .slice (some ⟨g, 0, none⟩) 1 c) (hg : w.heap[g]? = some (.cells news.toArray e (0, 0))) (hl : news.length = size) (h1 : ∀ u ∈ news, u.oneCell' = true)
    (hbytes : (n + 1) * bytes ≤ 140737488355328) (hby : 0 < bytes) (hbase : base ≤ w.heap.size)
    (h : ∀ v' w', w'.ownsRow base e size v' (n + 1) (xs ++ news) → w.grownBy w' v.ownBlock → (v'.ownBlock = v.ownBlock ∨ v'.ownBlock = some w.heap.size) → K (a.put o.dst v') w') :
    if Region.wanted o (yielded ops a.tmps) = true then Oper.wp P o a w K Q else E := by
  have hw : Region.wanted o (yielded ops a.tmps) = true := by simp [Region.wanted, hgd]
  rw [if_pos hw]
  obtain ⟨i, hi, hz, hsi, hbi⟩ := info_parts hinfo
  have h63 : n + 1 ≤ maxLen := by
    have : n + 1 ≤ (n + 1) * bytes := Nat.le_mul_of_pos_right _ hby
    unfold maxLen; omega
  obtain ⟨v', w', hr, h2, h3, h4, h5⟩ := run_append_own_at (P := P) w base t o.type e i z size bytes ht hi hz hsi hbi hzs hsz v n xs hown ⟨g, 0, none⟩ 1 c news (by rw [hl, Nat.one_mul]) (fun j u hu => by rw [add_at, Nat.zero_add, cell_row hg]; simpa using hu) h1 h63 hbytes hbase
  unfold Oper.wp execOp
  simp only [ho, resolve, invoke, builtin, Sem.run_bind, Sem.run_pure, Result.andThen_ok, List.map_toArray, List.map_cons, List.map_nil, hs, hx, hr]
  exact h v' w' h2 h3 h5
theorem yieldsIf_build {P : Program} {ops : Array Oper} {S : World → Prop} {op : Oper} {a : Act} (hw : Region.wanted op (yielded ops a.tmps) = true) (t : TypeId) (parts : Array (Nat × Operand)) (ho : op.op = .build t parts)
    (L : List (Nat × Value)) (hL : (parts.map fun (i, x) => (i, a.eval x)).toList = L) (cells : Array Value) (hb : P.built t L = some cells) : YieldsIf P ops S op (.agg cells) a := by
  subst hL
  refine .inl ⟨hw, fun w _ => ?_⟩
  unfold execOp
  simp only [ho, Sem.run_bind, run_build w t _ cells hb, Result.andThen_ok]
  rfl
theorem fill_one (X : Array Value) (ws : List Value) (n : Nat) (hX : X.size = n) (hl : ws.length = n) : Instr.fill (fun i => some (i * n, n)) X [(0, .agg ws.toArray)] = some ws.toArray := by
  have hX2 : X = X.toList.toArray := rfl
  have := fold_set 0 ws 0 X.toList (by simp [hX, hl])
  unfold Instr.fill
  simp only [Nat.zero_mul, Value.cells, List.size_toArray, hl, hX]
  rw [if_neg (by simp)]
  unfold Instr.fill
  rw [Array.zipIdx_toArray]
  simp only [List.foldl_toArray]
  rw [hX2, this]
  rw [List.drop_eq_nil_of_le (by simp [hX, hl])]
  simp
theorem run_buildSlice_one {P : Program} (w : World) (t e : TypeId) (i : TypeInfo) (z : Array Value) (ws : List Value) (n : Nat) (ht : P.underlying t = some (.slice e)) (hi : P.info? e = some i) (hz : i.zero = some (.agg z)) (hs : i.size = n) (hzs : z.size = n) (hl : ws.length = n) (h0 : 0 < n) (h24 : n ≤ 16777216) :
    (Instr.buildSlice t 1 #[(0, .agg ws.toArray)]).run P w = .ok (.slice (some ⟨w.heap.size, 0, none⟩) 1 1) (w.alloc (.cells ws.toArray e)) := by
  subst hs
  have h1 : ¬ (2 ^ 24 < i.size) := by omega
  have h2 : ¬ (i.size = 0) := by omega
  have hf := fill_one ((Array.range (1 * i.size)).map (z[· % z.size]!)) ws i.size (by simp) hl
  rw [Nat.one_mul] at hf
  unfold Instr.buildSlice
  simp only [Sem.run_bind, run_underlying ht, Result.andThen_ok]
  simp [sizeOf, typeInfo, zeroValue, hi, hz, h1, h2, Value.cells, hf, newRow]
theorem step_buildSlice {P : Program} {ops : Array Oper} {o : Oper} {a : Act} {w : World} {K : Act → World → Prop} {Q : Exit → Act → World → Prop} {E : Prop} (hgd : o.guard = none) (t : TypeId) (x : Operand) (ho : o.op = .buildSlice t 1 #[(0, x)])
    (e : TypeId) (z : Array Value) (ws : List Value) (n bytes : Nat) (ht : P.underlying t = some (.slice e)) (hinfo : (P.info? e).map (fun i => (i.zero, i.size, i.bytes)) = some (some (.agg z), n, bytes)) (hx : a.eval x = .agg ws.toArray) (hzs : z.size = n) (hl : ws.length = n) (h0 : 0 < n) (h24 : n ≤ 16777216)
    (h : K (a.put o.dst (.slice (some ⟨w.heap.size, 0, none⟩) 1 1)) (w.alloc (.cells ws.toArray e))) : if Region.wanted o (yielded ops a.tmps) = true then Oper.wp P o a w K Q else E := by
  have hw : Region.wanted o (yielded ops a.tmps) = true := by simp [Region.wanted, hgd]
  rw [if_pos hw]
  obtain ⟨i, hi, hz, hsi, hbi⟩ := info_parts hinfo
  have hr := run_buildSlice_one w t e i z ws n ht hi hz hsi hzs hl h0 h24
  unfold Oper.wp execOp
  simp only [ho, Sem.run_bind, List.map_toArray, List.map_cons, List.map_nil, hx, hr, Result.andThen_ok]
  exact h
section
variable {w w1 w2 : World} {base p gS : Nat} {vq v' : Value} {D : Dk}
theorem DkAt.append (h : DkAt w1 base p gS vq D) (q : Wr) (hg : w1.grownBy w2 vq.ownBlock) (hown : w2.ownsRow base 71 129 v' (D.Q.length + 1) (rowsOf wrF D.Q ++ wrF q)) (hat : v'.ownBlock = vq.ownBlock ∨ v'.ownBlock = some w1.heap.size) :
    DkAt (w2.setCell ⟨p, 3, none⟩ v') base p gS v' { D with Q := D.Q ++ [q] } ∧ Keep (Ft p gS vq) w1 (w2.setCell ⟨p, 3, none⟩ v') ∧ ∀ k, v'.ownBlock = some k → vq.ownBlock = some k ∨ w1.heap.size ≤ k := by
  obtain ⟨l1, l2, l3⟩ := h.lt
  have hne : ∀ k, v'.ownBlock = some k → k ≠ p ∧ k ≠ gS := fun k hk => by
    rcases hat with e | e
    · exact h.qp k (e ▸ hk)
    · rw [e] at hk; cases hk; omega
  have hp2 : w2.heap[p]? = w1.heap[p]? := hg.block p l1 (fun e => (h.qp p e.symm).1 rfl)
  have hS2 : w2.heap[gS]? = w1.heap[gS]? := hg.block gS l2 (fun e => (h.qp gS e.symm).2 rfl)
  have hk2 : Keep (fun k => vq.ownBlock = some k) w1 w2 := ⟨hg.os, hg.tape, hg.output, hg.size, fun k hk hf => hg.block k hk (fun e => hf e.symm)⟩
  refine ⟨⟨?_, ?_, ?_, h.bp, h.bS, h.pS, hne⟩, ?_, ?_⟩
  · have := head_set (hp2.trans h.head) 3 v'
    exact this
  · exact RawAt.move (RawAt.move h.secs hS2) (Below.heap_setCell w2 ⟨p, 3, none⟩ v' gS (fun e => h.pS e.symm))
  · have hl : (D.Q ++ [q]).length = D.Q.length + 1 := by simp
    show (w2.setCell ⟨p, 3, none⟩ v').ownsRow base 71 129 v' (D.Q ++ [q]).length (rowsOf wrF (D.Q ++ [q]))
    rw [hl, rowsOf_snoc]
    rcases hown with ⟨e0, e1 | ⟨g, cap, cur, e1, e2, e3, e4⟩⟩
    · exact ⟨e0, .inl e1⟩
    · exact ⟨e0, .inr ⟨g, cap, cur, e1, e2, (Below.heap_setCell w2 ⟨p, 3, none⟩ v' g (hne g (by rw [e1]; rfl)).1).trans e3, e4⟩⟩
  · exact (Keep.mono hk2 (fun k hk => .inr (.inr hk))).setCell p 3 v' (.inl rfl)
  · intro k hk
    rcases hat with e | e
    · exact .inl (e ▸ hk)
    · rw [e] at hk; cases hk; exact .inr (Nat.le_refl _)
theorem s3_move {w w' : World} {p b : Nat} {v : Value} {cs : List Value} (h : w.cell? ⟨p, 3, none⟩ = some v ∧ w.frozen? ⟨p, 3, none⟩ = false ∧ w.rangeAt b 0 cs) (hp : w'.heap[p]? = w.heap[p]?) (hb : w'.heap[b]? = w.heap[b]?) :
    w'.cell? ⟨p, 3, none⟩ = some v ∧ w'.frozen? ⟨p, 3, none⟩ = false ∧ w'.rangeAt b 0 cs := by
  refine ⟨(World.cell?_of_block (a := ⟨p, 3, none⟩) hp).trans h.1, ?_, fun j u hu => (World.cell?_of_block (a := ⟨b, 0 + j, none⟩) hb).trans (h.2.2 j u hu)⟩
  have := h.2.1
  simp only [World.frozen?, hp] at this ⊢
  exact this
def writeD (D : Dk) (at_ : Int) (s : Sc) : Dk × Int := if mayE D at_ = 0 then deedD { D with Q := D.Q ++ [⟨at_, s⟩] } else (D, mayE D at_)
/-- What an operation of a disk comes to. -/
def DTo (w : World) (base p gS : Nat) (vq : Value) (D : Dk) (v : Value) (e : Ending) (w' : World) : Prop :=
  e = .returned v ∧ ∃ vq', DkAt w' base p gS vq' D ∧ Keep (Ft p gS vq) w w' ∧ ∀ k, vq'.ownBlock = some k → vq.ownBlock = some k ∨ w.heap.size ≤ k
set_option maxRecDepth 100000 in
set_option maxHeartbeats 4000000 in
theorem dwrite_any (at_ : Int) (s : Sc) (h : DkAt w base p gS vq D) (hQ : D.Q.length ≤ 1000) (h1 : -1 ≤ D.arm ∧ D.arm ≤ 9223372036854775807) (h2 : 0 ≤ D.deeds ∧ D.deeds ≤ 1000000) :
    Calls Try.prog 15 #[.pointer (some ⟨p, 0, none⟩), .int .i64 at_, secV s.1] w (DTo w base p gS vq (writeD D at_ s).1 (.int .i64 (writeD D at_ s).2)) := by
  obtain ⟨cs, hcs, hcl, hone⟩ : ∃ cs : List Value, scF s = cs ∧ cs.length = 128 ∧ ∀ v ∈ cs, v.oneCell' = true := ⟨_, rfl, scF_len _, scF_one _⟩
  have hsv : secV s.1 = .agg cs.toArray := by rw [← hcs]; rfl
  rw [hsv]
  have hb0 := (Below.refl w.heap.size w).alloc (Nat.le_refl _) (.cells cs.toArray 31)
  have hd0 := h.below hb0
  have hx0 := new_heap w (.cells cs.toArray 31 (0, 0))
  have HM := Lib.hid (dmay_any at_ hd0)
  have hq := own_slice1 h.que
  obtain ⟨sq, cq, rfl⟩ := hq
  have hlt := h.lt
  have HD := Lib.hid h
  clear h
  by_cases hE : mayE D at_ = 0
  · have hW : writeD D at_ s = deedD { D with Q := D.Q ++ [⟨at_, s⟩] } := by unfold writeD; rw [if_pos hE]
    rw [hW]
    rw [hE] at HM
    obtain ⟨w1, hw1⟩ : ∃ w1, w.alloc (.cells cs.toArray 31) = w1 := ⟨_, rfl⟩
    rw [hw1] at hb0 hd0 hx0 HM
    go_enter Try.func15, Try.ntmps15
    go_upto_region 4 with (first
      | (go_at_call 25; (try rw [hw1]); go_must (refine HM.out.mono ?_; rintro e w2 ⟨rfl, rfl⟩)))
    obtain ⟨d0, d1, d2, d3, d4⟩ := hd0.cells
    have e3 : w1.frozen? ⟨p, 3, none⟩ = false := free_row hd0.head 3
    have hrg : w1.rangeAt w.heap.size 0 cs := fun j v hv => by rw [cell_row hx0]; simpa using hv
    have hbw := built_wr ⟨at_, s⟩
    rw [hcs] at hbw
    dsimp only at hbw
    obtain ⟨ws, hws, hwl, hw1'⟩ : ∃ ws : List Value, wrF ⟨at_, s⟩ = ws ∧ ws.length = 129 ∧ ∀ v ∈ ws, v.oneCell' = true := ⟨_, rfl, wrF_len _, wrF_one _⟩
    rw [hws] at hbw
    have hu := Try.underlying31
    have hi : (Try.prog.info? 31).map (·.size) = some cs.length := by rw [hcl]; exact size_sec
    have hbse := hd0.lt
    have HD0 := Lib.hid hd0
    have HB0 := Lib.hid hb0
    have hsz1 : w1.heap.size = w.heap.size + 1 := by rw [← hw1]; simp
    have HQ := Lib.hid hd0.que
    have hbs : base ≤ w1.heap.size := by have := hd0.bp; have := hd0.lt.1; omega
    clear hb0 hd0 hx0 hw1 d0 d1 d2 d4
    have hbA : Below w1.heap.size w1 (w1.drew.alloc (.cells ws.toArray 71)) := (Below.refl _ w1).drew.alloc (Nat.le_refl _) _
    have hkA := s3_move (w' := w1.drew.alloc (.cells ws.toArray 71)) ⟨d3, e3, hrg⟩ (hbA.block p hbse.1) (hbA.block w.heap.size (by omega))
    have hpA : p < (w1.drew.alloc (.cells ws.toArray 71)).heap.size := Nat.lt_of_lt_of_le hbse.1 hbA.size
    have hbA2 : w.heap.size < (w1.drew.alloc (.cells ws.toArray 71)).heap.size := Nat.lt_of_lt_of_le (by omega) hbA.size
    have hqp := HD0.out.qp
    have hql := hlt.2.2
    refine wp_region_F (S := (fun w' => w'.cell? ⟨p, 3, none⟩ = some (.slice sq D.Q.length cq) ∧ w'.frozen? ⟨p, 3, none⟩ = false ∧ w'.rangeAt w.heap.size 0 cs)) 12 (by kernel_rfl) (by exact ⟨d3, e3, (World.rangeAt_drew _ _ _ _).2 hrg⟩) (fun hHeld => ?_)
    refine take1F (i := 0) (v := ?_) (a' := ?_) (some 14) #[true, false, false, false, false, false, false, false, false, false, false, false, false] rfl rfl (by kernel_rfl) (fun _ _ _ h => h) (Or.inl ⟨by rfl, ?_⟩) hHeld ?_ ?_
    rotate_left
    · (intro w hSw; (try dsimp only at hSw); obtain ⟨s1, s2, s3⟩ := hSw; go_simp; (try with_reducible rfl))
    rotate_left
    · simp only [Act.put, List.setIfInBounds_toArray, List.set_cons_zero, List.set_cons_succ]
      rfl
    refine take1F (i := 1) (v := ?_) (a' := ?_) (some 15) #[true, true, false, false, false, false, false, false, false, false, false, false, false] rfl rfl (by kernel_rfl) (fun _ _ _ h => h) (Or.inl ⟨by rfl, ?_⟩) hHeld ?_ ?_
    rotate_left
    · (intro w hSw; (try dsimp only at hSw); obtain ⟨s1, s2, s3⟩ := hSw; go_simp; (try with_reducible rfl))
    rotate_left
    · simp only [Act.put, List.setIfInBounds_toArray, List.set_cons_zero, List.set_cons_succ]
      rfl
    refine take1F (i := 2) (v := ?_) (a' := ?_) (some 16) #[true, true, true, false, false, false, false, false, false, false, false, false, false] rfl rfl (by kernel_rfl) (fun _ _ _ h => h) (Or.inl ⟨by rfl, ?_⟩) hHeld ?_ ?_
    rotate_left
    · (intro w hSw; (try dsimp only at hSw); obtain ⟨s1, s2, s3⟩ := hSw; go_simp; (try with_reducible rfl))
    rotate_left
    · simp only [Act.put, List.setIfInBounds_toArray, List.set_cons_zero, List.set_cons_succ]
      rfl
    refine take1F (i := 3) (v := ?_) (a' := ?_) (some 17) #[true, true, true, true, false, false, false, false, false, false, false, false, false] rfl rfl (by kernel_rfl) (fun _ _ _ h => h) (Or.inl ⟨by rfl, ?_⟩) hHeld ?_ ?_
    rotate_left
    · (intro w hSw; (try dsimp only at hSw); obtain ⟨s1, s2, s3⟩ := hSw; go_simp; (try with_reducible rfl))
    rotate_left
    · simp only [Act.put, List.setIfInBounds_toArray, List.set_cons_zero, List.set_cons_succ]
      rfl
    refine take1F (i := 4) (v := ?_) (a' := ?_) (some 18) #[true, true, true, true, true, false, false, false, false, false, false, false, false] rfl rfl (by kernel_rfl) (fun _ _ _ h => h) (Or.inl ⟨by rfl, ?_⟩) hHeld ?_ ?_
    rotate_left
    · (intro w hSw; (try dsimp only at hSw); obtain ⟨s1, s2, s3⟩ := hSw; go_simp; (try with_reducible rfl))
    rotate_left
    · simp only [Act.put, List.setIfInBounds_toArray, List.set_cons_zero, List.set_cons_succ]
      rfl
    refine take1F (i := 5) (v := ?_) (a' := ?_) (some 19) #[true, true, true, true, true, true, false, false, false, false, false, false, false] rfl rfl (by kernel_rfl) (fun _ _ _ h => h) (Or.inl ⟨by rfl, ?_⟩) hHeld ?_ ?_
    rotate_left
    · (intro w hSw; (try dsimp only at hSw); obtain ⟨s1, s2, s3⟩ := hSw; go_simp; (try with_reducible rfl))
    rotate_left
    · simp only [Act.put, List.setIfInBounds_toArray, List.set_cons_zero, List.set_cons_succ]
      rfl
    refine take1F (i := 6) (v := .agg cs.toArray) (a' := ?_) (some 20) #[true, true, true, true, true, true, true, false, false, false, false, false, false] rfl rfl (by kernel_rfl) (fun _ _ _ h => h) (yieldsIf_load_mid (by rfl) 31 (.tmp 5) rfl w.heap.size 0 rfl cs _ (fun w h => h.2.2) hu rfl hi) hHeld ?_ ?_
    rotate_left
    · simp only [Act.put, List.setIfInBounds_toArray, List.set_cons_zero, List.set_cons_succ]
      rfl
    refine take1F (i := 7) (v := .agg ws.toArray) (a' := ?_) (some 21) #[true, true, true, true, true, true, true, true, false, false, false, false, false] rfl rfl (by kernel_rfl) (fun _ _ _ h => h) (yieldsIf_build (by rfl) 71 _ rfl [(0, .int .i64 at_), (1, .agg cs.toArray)] (by simp [Act.eval]) ws.toArray hbw) hHeld ?_ ?_
    rotate_left
    · simp only [Act.put, List.setIfInBounds_toArray, List.set_cons_zero, List.set_cons_succ]
      rfl
    refine loud1F (i := 8) (some 22) #[true, true, true, true, true, true, true, true, true, false, false, false, false] rfl rfl (by kernel_rfl) (fun K hK => ?_)
    refine step_buildSlice rfl 67 (.tmp 21) (by rfl) 71 (wrF wr0).toArray ws 129 136 Try.underlying67 info_wr3 (by rfl) (by simp [wrF_len]) hwl (by decide) (by decide) ?_
    refine hK.out _ _ (by (first | exact hk4 | exact hkA)) (fun hHeld' => ?_)
    clear hK K hHeld
    have hHeld := hHeld'
    clear hHeld'
    try simp only [Act.put, List.setIfInBounds_toArray, List.set_cons_zero, List.set_cons_succ]
    refine loud1F (i := 9) (some 23) #[true, true, true, true, true, true, true, true, true, true, false, false, false] rfl rfl (by kernel_rfl) (fun K hK => ?_)
    (refine step_append_at rfl (.tmp 18) (.tmp 22) 67 (by rfl) base 71 (.agg (wrF wr0).toArray) 129 136 Try.underlying67 info_wr3 (by simp [Value.cells, wrF_len]) (by decide) (.slice sq D.Q.length cq) D.Q.length (rowsOf wrF D.Q) (by rfl) (own_below HQ.out hbA) w1.heap.size 1 ws (by rfl) (new_heap w1.drew (.cells ws.toArray 71 (0, 0))) hwl hw1' (by omega) (by decide) (by simp; omega) ?_; intro v' w4 hown4 hg4 hat4; obtain ⟨s4, c4, rfl⟩ := own_slice1 hown4; have hk4 := s3_move hHeld (hg4.block p hpA (fun e => (hqp p e.symm).1 rfl)) (hg4.block w.heap.size hbA2 (fun e => by have := hql w.heap.size e.symm; omega)))
    refine hK.out _ _ (by (first | exact hk4 | exact hkA)) (fun hHeld' => ?_)
    clear hK K hHeld
    have hHeld := hHeld'
    clear hHeld'
    try simp only [Act.put, List.setIfInBounds_toArray, List.set_cons_zero, List.set_cons_succ]
    refine loud1F (i := 10) (some 24) #[true, true, true, true, true, true, true, true, true, true, true, false, false] rfl rfl (by kernel_rfl) (fun K hK => ?_)
    go_simp
    skip
    refine hK.out _ _ (by (first | exact hk4 | exact hkA)) (fun hHeld' => ?_)
    clear hK K hHeld
    have hHeld := hHeld'
    clear hHeld'
    try simp only [Act.put, List.setIfInBounds_toArray, List.set_cons_zero, List.set_cons_succ]
    refine loud1F (i := 11) (some 25) #[true, true, true, true, true, true, true, true, true, true, true, true, false] rfl rfl (by kernel_rfl) (fun K hK => ?_)
    go_simp
    skip
    refine hK.out _ _ (by (first | exact hk4 | exact hkA)) (fun hHeld' => ?_)
    clear hK K hHeld
    have hHeld := hHeld'
    clear hHeld'
    try simp only [Act.put, List.setIfInBounds_toArray, List.set_cons_zero, List.set_cons_succ]
    refine last1F (none) #[true, true, true, true, true, true, true, true, true, true, true, true, true] rfl rfl (by kernel_rfl) (fun K hK => ?_)
    (obtain ⟨s1, s2, s3⟩ := hHeld; go_simp)
    refine hK.out _ _ ?_
    clear hK K
    try simp only [Act.put, List.setIfInBounds_toArray, List.set_cons_zero, List.set_cons_succ]
    refine wpAnyF_done (by kernel_rfl) ?_ _
    obtain ⟨hA1, hA2, hA3⟩ := (HD0.out.below hbA).append ⟨at_, s⟩ hg4 (by rw [hws]; exact hown4) hat4
    revert hA1 hA2 hA3
    generalize w4.setCell ⟨p, 3, none⟩ (.slice s4 (D.Q.length + 1) c4) = w5
    intro hA1 hA2 hA3
    have HDD := Lib.hid (ddeed_any hA1 h1 h2)
    unfold HeadTo at HDD
    have HA2 := Lib.hid hA2
    have HA3 := Lib.hid hA3
    have hK0 : Keep (Ft p gS (.slice sq D.Q.length cq)) w w5 := (Keep.of_below HB0.out).trans ((Keep.of_below (F := Ft p gS (.slice sq D.Q.length cq)) hbA).trans hA2)
    have HK0 := Lib.hid hK0
    have hwl1 : w.heap.size ≤ w1.heap.size := by omega
    clear hA1 hA2 hA3 hk4 hg4 hown4 hat4 hkA d3 e3 hrg hK0
    go_wp2_with (first
      | (go_at_call 27; go_must (refine HDD.out.mono ?_; rintro e w6 ⟨rfl, hd6, hk6⟩)))
    go_ret
    refine ⟨rfl, _, hd6, HK0.out.trans (Keep.mono hk6 (fun k e => .inl e)), fun k hk => ?_⟩
    rcases HA3.out k hk with e | e
    · exact .inl e
    · have := hbA.size; exact .inr (by omega)
  · have hW : writeD D at_ s = (D, mayE D at_) := by unfold writeD; rw [if_neg hE]
    rw [hW]
    have hne : (mayE D at_ != 0) = true := by simpa using hE
    generalize mayE D at_ = E at *
    have HB := Lib.hid hb0
    have HD0 := Lib.hid hd0
    clear hb0 hd0 hx0
    go_enter Try.func15, Try.ntmps15
    go_wp2_with (first
      | (go_at_call 25; go_must (refine HM.out.mono ?_; rintro e w2 ⟨rfl, rfl⟩)))
    go_ret
    exact ⟨rfl, _, HD0.out, Keep.of_below HB.out, fun k hk => .inl hk⟩
end
end Go.Proofs.Ytiehfaiadhhndaa
