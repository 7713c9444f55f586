/-
  Codec: the reference's WriteSummary.
-/
import Derived.Test.YtlcbfpcabalgcaaCodSr
import Derived.Test.YtlcbfpcabalgcaaCodHf
namespace Go.Proofs.Ytlcbfpcabalgcaa
open Go.RowKit
set_option linter.unusedVariables false
set_option linter.unusedSimpArgs false
set_option linter.unnecessarySimpa false
theorem rd_two {w : World} {g : Nat} {t : TypeId} {u v : Value} (h : w.heap[g]? = some (.cells #[u, v] t (0, 0))) (c : Nat) : Rd w (.slice (some ⟨g, 0, none⟩) 2 c) 1 2 [u, v] :=
  ⟨rfl, .inr ⟨_, c, rfl, fun j x hx => by rw [add_at, cell_row h, Nat.zero_add]; simpa using hx⟩⟩
/-- May an entry stand? -/
def entGood (x : Ent5) : Bool := entryMay x && !fBad (entryL x)
def EntGood (x : Ent5) : Prop := (1 ≤ x.kind ∧ x.kind ≤ 6) ∧ x.num ≤ 65535 ∧ (0 ≤ x.idx ∧ x.idx ≤ 65535)
theorem fit2n (n : Nat) : fitB 2 n = decide (n ≤ 65535) := by
  unfold fitB putOk
  rw [(fitsB_iff _ _ _).2 (by omega), Bool.true_and]
  exact decide_eq_decide.2 (by show n < 65536 ↔ n ≤ 65535; omega)
theorem fit1n (n : Nat) : fitB 1 n = decide (n ≤ 255) := by
  unfold fitB putOk
  rw [(fitsB_iff _ _ _).2 (by omega), Bool.true_and]
  exact decide_eq_decide.2 (by show n < 256 ↔ n ≤ 255; omega)
theorem ent_good (x : Ent5) (hx : x.Ok) : entGood x = true ↔ EntGood x := by
  have h2 := fit2 x.idx hx.idx
  have h1 : entryMay x = true → (decide (x.kind < 0) || !fitB 1 x.kind.toNat) = false := fun h => by
    unfold entryMay at h
    rw [decide_eq_true_iff] at h
    obtain ⟨m, hm⟩ : ∃ m : Nat, x.kind = (m : Int) := ⟨x.kind.toNat, by omega⟩
    rw [hm]
    exact fit_full 1 m (by decide) (by show m < 256; omega)
  have h4 := fit_full 4 x.ver (by decide) hx.ver
  have h3 : (decide ((x.num : Int) < 0) || !fitB 2 (x.num : Int).toNat) = !decide (x.num ≤ 65535) := by
    rw [decide_eq_false (by omega), Int.toNat_natCast, fit2n]; rfl
  have hb : fBad (entryL x) = ((decide (x.kind < 0) || !fitB 1 x.kind.toNat) || (!decide (x.num ≤ 65535) || (false || !decide (0 ≤ x.idx ∧ x.idx ≤ 65535)))) := by
    unfold entryL
    simp only [fBad]
    rw [h3, h4, h2]
    simp
  unfold entGood EntGood
  rw [hb]
  cases hm : entryMay x with
  | false =>
    unfold entryMay at hm
    rw [decide_eq_false_iff_not] at hm
    simp
    omega
  | true =>
    rw [h1 hm]
    unfold entryMay at hm
    rw [decide_eq_true_iff] at hm
    simp
    omega
theorem all_good (L : List Ent5) : (L.all entryMay && !fBad (entryAll L)) = L.all entGood := by
  induction L with
  | nil => rfl
  | cons x r ih =>
    have h1 : entryAll (x :: r) = entryL x ++ entryAll r := by simp [entryAll]
    rw [h1, fBad_append, List.all_cons, List.all_cons, ← ih]
    unfold entGood
    cases entryMay x <;> cases fBad (entryL x) <;> cases r.all entryMay <;> cases fBad (entryAll r) <;> rfl
theorem head_bad (x : Smy) (hx : x.Ok) : fBad x.head = !(decide (x.ents.length ≤ 255) && decide (0 ≤ x.next ∧ x.next ≤ 65535)) := by
  have h1 := fit_full 8 x.seq (by decide) hx.seq
  have h2 := fit_full 8 x.first (by decide) hx.first
  have h3 : (decide (flagN x.commit < 0) || !fitB 1 (flagN x.commit).toNat) = false := by cases x.commit <;> decide
  have h4 : (decide ((x.ents.length : Int) < 0) || !fitB 1 (x.ents.length : Int).toNat) = !decide (x.ents.length ≤ 255) := by
    rw [decide_eq_false (by omega), Int.toNat_natCast]
    rw [fit1n]; rfl
  have h5 := fit2 x.next hx.next
  have h6 := fit_full 4 x.time (by decide) hx.time
  unfold Smy.head
  simp only [fBad]
  rw [h1, h2, h3, h4, h5, h6]
  cases decide (x.ents.length ≤ 255) <;> cases decide (0 ≤ x.next ∧ x.next ≤ 65535) <;> rfl
/-- What may be written. -/
theorem sumWr_eq (x : Smy) (hx : x.Ok) : sumWr x = (decide (x.ents.length ≤ 8 ∧ 0 ≤ x.next ∧ x.next ≤ 65535) && x.ents.all entGood) := by
  unfold sumWr sumL entrysMay
  rw [fBad_append, head_bad x hx, ← all_good]
  cases x.ents.all entryMay <;> cases fBad (entryAll x.ents) <;> simp
  rw [Bool.eq_iff_iff]
  simp
  omega
def flagB (c : Bool) : UInt8 := if c then 1 else 0
theorem le_one (n : Nat) (h : n ≤ 255) : le 1 n = [UInt8.ofNat n] := by
  show [UInt8.ofNat (n % 256)] = _
  rw [Nat.mod_eq_of_lt (by omega)]
theorem head_bytes (x : Smy) (hx : x.Ok) (n : Nat) (hl : x.ents.length ≤ 8) (hn : x.next = (n : Int)) (hn2 : n ≤ 65535) : fB x.head = (((le 8 x.seq ++ le 8 x.first) ++ [flagB x.commit, UInt8.ofNat x.ents.length]) ++ le 2 n) ++ le 4 x.time := by
  have h3 : wB 1 (flagN x.commit).toNat = [flagB x.commit] := by cases x.commit <;> decide
  have h4 : wB 1 (x.ents.length : Int).toNat = [UInt8.ofNat x.ents.length] := by rw [Int.toNat_natCast, wB_full 1 _ (by decide) (by show _ < 256; omega), le_one _ (by omega)]
  unfold Smy.head
  simp only [fB]
  rw [h3, h4, hn, Int.toNat_natCast, Int.toNat_natCast, Int.toNat_natCast, Int.toNat_natCast, wB_full 8 _ (by decide) hx.seq, wB_full 8 _ (by decide) hx.first, wB_full 2 n (by decide) (by show n < 65536; omega), wB_full 4 _ (by decide) hx.time]
  simp
theorem ent_bytes (kind num ver idx : Nat) (h1 : kind ≤ 255) (h2 : num ≤ 65535) (h3 : ver < 2 ^ 32) (h4 : idx ≤ 65535) : fB (entryL ⟨(kind : Int), num, ver, (idx : Int)⟩) = (([UInt8.ofNat kind] ++ le 2 num) ++ le 4 ver) ++ le 2 idx := by
  unfold entryL
  simp only [fB, Int.toNat_natCast]
  rw [wB_full 1 _ (by decide) (by show _ < 256; omega), wB_full 2 num (by decide) (by show _ < 65536; omega), wB_full 4 _ (by decide) h3, wB_full 2 idx (by decide) (by show _ < 65536; omega), le_one _ h1]
  simp
theorem bvs_ofNat (n : Nat) (h : n ≤ 255) : [Value.int .u8 (n : Int)] = bvs [UInt8.ofNat n] := by
  have : (UInt8.ofNat n).toNat = n := by simp; omega
  simp [bvs, bval, this]
theorem bvs_flag (c : Bool) (n : Nat) (h : n ≤ 255) : [Value.int .u8 (flagN c), Value.int .u8 (n : Int)] = bvs [flagB c, UInt8.ofNat n] := by
  have : (UInt8.ofNat n).toNat = n := by simp; omega
  cases c <;> simp [bvs, bval, this, flagN, flagB]
theorem side_keep {w w' : World} {p : Nat} {v : Value} {ob : Obj} (h : w.heap[p]? = some ob) (hv : v.ownBlock ≠ some p) (hg : w.grownBy w' v.ownBlock) : w'.heap[p]? = some ob :=
  (hg.block p (Array.getElem?_eq_some_iff.1 h).1 (fun e => hv e.symm)).trans h
theorem side_own {w : World} {p : Nat} {v v' : Value} {ob : Obj} (h : w.heap[p]? = some ob) (hv : v.ownBlock ≠ some p) (hat : v'.ownBlock = v.ownBlock ∨ v'.ownBlock = some w.heap.size) : v'.ownBlock ≠ some p := fun e => by
  have := (Array.getElem?_eq_some_iff.1 h).1
  rcases hat with q | q
  · exact hv (q.symm.trans e)
  · rw [q] at e; cases e; omega
set_option maxRecDepth 10000 in
set_option maxHeartbeats 16000000 in
theorem rwriteSummary_any (x : Smy) (hx : x.Ok) (A : Option Addr) (c : Nat) (w : World) (hR : ReadAt w A Ent5.cells 4 x.ents) :
    Calls Try.prog 40 #[.agg (x.cells (.slice A x.ents.length c))] w (RsS w 3 (sumWr x) (fB (sumL x))) := by
  obtain ⟨seq, first, commit, next, time, L⟩ := x
  have hwq := sumWr_eq _ hx
  have hhb := fun n => head_bytes _ hx n
  obtain ⟨r0, r1, r3, r4, rE, rL⟩ := hx
  dsimp only at hwq hhb r0 r1 r3 r4 rE rL hR
  have hc : (Smy.mk seq first commit next time L).cells (.slice A (Smy.mk seq first commit next time L).ents.length c) = #[.int .u64 (seq : Int), .int .u64 (first : Int), .bool commit, .int .i64 next, .int .u32 (time : Int), .slice A L.length c] := rfl
  rw [hc]
  clear hc
  have hB2 : Below w.heap.size w ((w.alloc (.cells #[.int .u64 (seq : Int), .int .u64 (first : Int), .bool commit, .int .i64 next, .int .u32 (time : Int), .slice A L.length c] 101 (0, 0))).alloc (.cells Try.zeroCells28 28 (0, 0))) := ((Below.refl _ _).alloc (Nat.le_refl _) _).alloc (by simp) _
  have hG2 := old_heap (heap_alloc_last w (.cells #[.int .u64 (seq : Int), .int .u64 (first : Int), .bool commit, .int .i64 next, .int .u32 (time : Int), .slice A L.length c] 101 (0, 0))) ((Below.refl _ _).alloc (Nat.le_refl _) (.cells Try.zeroCells28 28 (0, 0)))
  have hT2 := heap_alloc_last (w.alloc (.cells #[.int .u64 (seq : Int), .int .u64 (first : Int), .bool commit, .int .i64 next, .int .u32 (time : Int), .slice A L.length c] 101 (0, 0))) (.cells Try.zeroCells28 28 (0, 0))
  rw [show (w.alloc (.cells #[.int .u64 (seq : Int), .int .u64 (first : Int), .bool commit, .int .i64 next, .int .u32 (time : Int), .slice A L.length c] 101 (0, 0))).heap.size = w.heap.size + 1 by simp] at hT2
  have hS2 : ((w.alloc (.cells #[.int .u64 (seq : Int), .int .u64 (first : Int), .bool commit, .int .i64 next, .int .u32 (time : Int), .slice A L.length c] 101 (0, 0))).alloc (.cells Try.zeroCells28 28 (0, 0))).heap.size = w.heap.size + 1 + 1 := by simp
  have hR2 := hR.below Ent5.cells_len hB2
  have HB2 := Lib.hid hB2
  have HG2 := Lib.hid hG2
  have HT2 := Lib.hid hT2
  have HS2 := Lib.hid hS2
  have HR2 := Lib.hid hR2
  have HWQ := Lib.hid hwq
  have HHB := Lib.hid hhb
  have HE := Lib.hid rE
  clear hB2 hG2 hT2 hS2 hR2 hwq hhb hR rE
  go_enter Try.func40, Try.ntmps40
  go_upto_region 1 with fail
  revert HB2 HG2 HT2 HS2 HR2
  generalize (w.alloc (.cells #[.int .u64 (seq : Int), .int .u64 (first : Int), .bool commit, .int .i64 next, .int .u32 (time : Int), .slice A L.length c] 101 (0, 0))).alloc (.cells Try.zeroCells28 28 (0, 0)) = w2
  intro HB2 HG2 HT2 HS2 HR2
  have hpl : w.heap.size < w2.heap.size := by have := HS2.out; omega
  have HC0 : Hid (w2.cell? ⟨w.heap.size, 0, none⟩ = some (.int .u64 (seq : Int))) := Lib.hid (cell_row HG2.out 0)
  have HC1 : Hid (w2.cell? ⟨w.heap.size, 1, none⟩ = some (.int .u64 (first : Int))) := Lib.hid (cell_row HG2.out 1)
  have HC2 : Hid (w2.cell? ⟨w.heap.size, 2, none⟩ = some (.bool commit)) := Lib.hid (cell_row HG2.out 2)
  have HC3 : Hid (w2.cell? ⟨w.heap.size, 3, none⟩ = some (.int .i64 next)) := Lib.hid (cell_row HG2.out 3)
  have HC4 : Hid (w2.cell? ⟨w.heap.size, 4, none⟩ = some (.int .u32 (time : Int))) := Lib.hid (cell_row HG2.out 4)
  have HC5 : Hid (w2.cell? ⟨w.heap.size, 5, none⟩ = some (.slice A L.length c)) := Lib.hid (cell_row HG2.out 5)
  have hlow := fun (k n : Nat) (h : n < 2 ^ 64) (hk : k ≤ 8) W => Lib.hid (low_any n k W h hk)
  have HW0 := fun W => hlow 8 seq r0 (by decide) W
  have HW1 := fun W => hlow 8 first r1 (by decide) W
  have HLOW := Lib.hid hlow
  clear hlow
  refine wp_region_held_drew (S := (fun w' => w'.cell? ⟨w.heap.size, 0, none⟩ = some (.int .u64 (seq : Int)) ∧ w'.cell? ⟨w.heap.size, 1, none⟩ = some (.int .u64 (first : Int)) ∧ Below w2.heap.size w2 w')) (by kernel_rfl) (by exact ⟨HC0.out, HC1.out, (Below.refl _ _).drew⟩) (fun hHeld => ?_)
  refine take1_ (i := 0) (v := ?_) (a' := ?_) (some 8) #[true, false, false, false, false, false, false, false] rfl rfl (by kernel_rfl) (fun _ _ _ h => h) (Or.inl ⟨by rfl, ?_⟩) hHeld ?_ ?_
  rotate_left
  · (intro w hSw; (try dsimp only at hSw); obtain ⟨c0, c1, cB⟩ := hSw; go_simp; (try with_reducible rfl))
  rotate_left
  · simp only [Act.put, List.setIfInBounds_toArray, List.set_cons_zero, List.set_cons_succ]
    rfl
  refine take1_ (i := 1) (v := ?_) (a' := ?_) (some 9) #[true, true, false, false, false, false, false, false] rfl rfl (by kernel_rfl) (fun _ _ _ h => h) (Or.inl ⟨by rfl, ?_⟩) hHeld ?_ ?_
  rotate_left
  · (intro w hSw; (try dsimp only at hSw); obtain ⟨c0, c1, cB⟩ := hSw; go_simp; (try with_reducible rfl))
  rotate_left
  · simp only [Act.put, List.setIfInBounds_toArray, List.set_cons_zero, List.set_cons_succ]
    rfl
  refine take1_ (i := 3) (v := ?_) (a' := ?_) (some 11) #[true, true, false, true, false, false, false, false] rfl rfl (by kernel_rfl) (fun _ _ _ h => h) (Or.inl ⟨by rfl, ?_⟩) hHeld ?_ ?_
  rotate_left
  · (intro w hSw; (try dsimp only at hSw); obtain ⟨c0, c1, cB⟩ := hSw; go_simp; (try with_reducible rfl))
  rotate_left
  · simp only [Act.put, List.setIfInBounds_toArray, List.set_cons_zero, List.set_cons_succ]
    rfl
  refine take1_ (i := 4) (v := ?_) (a' := ?_) (some 12) #[true, true, false, true, true, false, false, false] rfl rfl (by kernel_rfl) (fun _ _ _ h => h) (Or.inl ⟨by rfl, ?_⟩) hHeld ?_ ?_
  rotate_left
  · (intro w hSw; (try dsimp only at hSw); obtain ⟨c0, c1, cB⟩ := hSw; go_simp; (try with_reducible rfl))
  rotate_left
  · simp only [Act.put, List.setIfInBounds_toArray, List.set_cons_zero, List.set_cons_succ]
    rfl
  refine loud1_ (i := 2) (some 10) #[true, true, true, true, true, false, false, false] rfl rfl (by kernel_rfl) (fun K hK => ?_)
  go_simp
  (go_at_call 56; refine (HW0 _).out.mono ?_; rintro e w3 ⟨v3, rfl, ho3, hb3⟩; have HO3 := Lib.hid (own_low ho3 hHeld.2.2.size); have hnx := hHeld.2.2.trans (hb3.mono hHeld.2.2.size); clear ho3)
  refine hK.out _ _ (by exact ⟨(hnx.cell (p := ⟨w.heap.size, 0, none⟩) hpl).trans HC0.out, (hnx.cell (p := ⟨w.heap.size, 1, none⟩) hpl).trans HC1.out, hnx⟩) (fun hHeld' => ?_)
  clear hK K hHeld
  have hHeld := hHeld'
  clear hHeld'
  try simp only [Act.put, List.setIfInBounds_toArray, List.set_cons_zero, List.set_cons_succ]
  refine loud1_ (i := 5) (some 13) #[true, true, true, true, true, true, false, false] rfl rfl (by kernel_rfl) (fun K hK => ?_)
  go_simp
  (go_at_call 56; refine (HW1 _).out.mono ?_; rintro e w4 ⟨v4, rfl, ho4, hb4⟩; have HO3' := Lib.hid (own_below HO3.out hb4); have HR4 := Lib.hid (own_rd ho4); have hnx := hHeld.2.2.trans (hb4.mono hHeld.2.2.size); clear ho4)
  refine hK.out _ _ (by exact ⟨(hnx.cell (p := ⟨w.heap.size, 0, none⟩) hpl).trans HC0.out, (hnx.cell (p := ⟨w.heap.size, 1, none⟩) hpl).trans HC1.out, hnx⟩) (fun hHeld' => ?_)
  clear hK K hHeld
  have hHeld := hHeld'
  clear hHeld'
  try simp only [Act.put, List.setIfInBounds_toArray, List.set_cons_zero, List.set_cons_succ]
  refine loud1_ (i := 6) (some 14) #[true, true, true, true, true, true, true, false] rfl rfl (by kernel_rfl) (fun K hK => ?_)
  (refine step_append_rd (by rfl) (.tmp 10) (.tmp 13) 26 (by rfl) w2.heap.size 5 (.int .u8 0) 1 1 Try.underlying26 infoU8 rfl (by decide) _ _ _ (by rfl) HO3'.out _ _ (bvs (le 8 first)) (by rfl) HR4.out (bvs_oneCell _) (by rw [le_length, le_length]; decide) (by decide) hHeld.2.2.size ?_; intro v5 w5 hown5 hbel5 hg5; rw [← bvs_append] at hown5; have HOn := Lib.hid hown5; have hnx := hHeld.2.2.trans hbel5; clear hown5 hbel5 hg5)
  refine hK.out _ _ (by exact ⟨(hnx.cell (p := ⟨w.heap.size, 0, none⟩) hpl).trans HC0.out, (hnx.cell (p := ⟨w.heap.size, 1, none⟩) hpl).trans HC1.out, hnx⟩) (fun hHeld' => ?_)
  clear hK K hHeld
  have hHeld := hHeld'
  clear hHeld'
  try simp only [Act.put, List.setIfInBounds_toArray, List.set_cons_zero, List.set_cons_succ]
  refine take1_ (i := 7) (v := ?_) (a' := ?_) (some 4) #[true, true, true, true, true, true, true, true] rfl rfl (by kernel_rfl) (fun _ _ _ h => h) (Or.inl ⟨by rfl, ?_⟩) hHeld ?_ ?_
  rotate_left
  · (intro w hSw; (try dsimp only at hSw); obtain ⟨c0, c1, cB⟩ := hSw; go_simp; (try with_reducible rfl))
  rotate_left
  · simp only [Act.put, List.setIfInBounds_toArray, List.set_cons_zero, List.set_cons_succ]
    rfl
  refine wpAnyH_done (by kernel_rfl) ?_ _
  have HBn := Lib.hid hHeld.2.2
  clear hHeld hnx HO3 HO3' HR4 HW0 HW1
  obtain ⟨M1, hM1⟩ : ∃ M, (le 8 seq ++ le 8 first) = M := ⟨_, rfl⟩
  have HLN : Hid (M1.length = 16) := Lib.hid (by rw [← hM1]; simp)
  have HO : Hid (w5.ownsRow w2.heap.size 5 1 v5 16 (bvs M1)) := Lib.hid (by have := HOn.out; rw [hM1, le_length, le_length] at this; exact this)
  have HB := HBn
  have HM1 := Lib.hid hM1
  clear hM1 HOn HBn
  have c3 : w5.cell? ⟨w.heap.size, 3, none⟩ = some (.int .i64 next) := (HB.out.cell (p := ⟨w.heap.size, 3, none⟩) hpl).trans HC3.out
  have c5 : w5.cell? ⟨w.heap.size, 5, none⟩ = some (.slice A L.length c) := (HB.out.cell (p := ⟨w.heap.size, 5, none⟩) hpl).trans HC5.out
  obtain ⟨sv5, cv5, rfl⟩ := own_slice1 HO.out
  by_cases hq : L.length ≤ 8 ∧ 0 ≤ next ∧ next ≤ 65535
  rotate_left
  · have HBAD : Hid (sumWr ⟨seq, first, commit, next, time, L⟩ = false) := Lib.hid (by rw [HWQ.out, decide_eq_false hq]; rfl)
    have HT5 := Lib.hid ((HB.out.block (w.heap.size + 1) (by have := HS2.out; omega)).trans HT2.out)
    have HB5 := Lib.hid (HB2.out.trans (HB.out.mono (by have := HS2.out; omega)))
    have hcut : ∀ G : Prop, (8 < (L.length : Int) → G) → (¬ 8 < (L.length : Int) → next < 0 → G) → (¬ 8 < (L.length : Int) → ¬ next < 0 → 65535 < next → G) → G := fun G a b d => by
      by_cases h1 : 8 < (L.length : Int)
      · exact a h1
      · by_cases h2 : next < 0
        · exact b h1 h2
        · exact d h1 h2 (by omega)
    clear hq
    refine hcut _ ?_ ?_ ?_ <;> clear hcut <;> intros
    all_goals
      go_wp2_with (refine wpList_store_row rfl 28 (.tmp 2) (.tmp 29) rfl (w.heap.size + 1) zArr zArr 28 rfl rfl HT5.out (by rw [zArr_size]; exact size_arr) rfl zArr_one ?_)
      have hld := run_loadVar_row (P := Try.prog) (w5.setRow (w.heap.size + 1) zArr) (w.heap.size + 1) 28 28 zArr (0, 0) _ (setRow_heap _ _ _ _ _ _ HT5.out) Try.underlying28 (by simp) (by rw [zArr_size]; exact size_arr)
      exact bodyPost_ret (v := .tuple #[secV (List.replicate 128 0), .bool false]) (results_cell2 Try.results40 rfl rfl hld) rfl (rsS_no HBAD.out rfl (below_row HB5.out (by omega)))
  · obtain ⟨q0, q1, q2⟩ := hq
    obtain ⟨n, rfl⟩ : ∃ n : Nat, next = (n : Int) := ⟨next.toNat, by omega⟩
    have HWR : Hid (sumWr ⟨seq, first, commit, (n : Int), time, L⟩ = L.all entGood) := Lib.hid (by rw [HWQ.out, decide_eq_true ⟨q0, q1, q2⟩]; rfl)
    have hhd := HHB.out n q0 rfl (by omega)
    have HHD := Lib.hid hhd
    clear HHB hhd HWQ
    have g0 : ¬ 8 < (L.length : Int) := by omega
    have g1 : ¬ ((n : Int) < 0) := by omega
    have g2 : ¬ 65535 < (n : Int) := by omega
    have c2 : w5.cell? ⟨w.heap.size, 2, none⟩ = some (.bool commit) := (HB.out.cell (p := ⟨w.heap.size, 2, none⟩) hpl).trans HC2.out
    have hcv : IntKind.u8.wrap (L.length : Int) = (L.length : Int) := by unfold IntKind.wrap; simp [IntKind.signed, IntKind.bits]; omega
    have y0 : (L.length : Int) % 256 = (L.length : Int) := by omega
    have hcm : commit = true ∨ commit = false := by cases commit <;> simp
    rcases hcm with rfl | rfl
    ·
      go_upto_region 7 with fail
      have hrd := rd_two (heap_alloc_new w5 (.cells #[.int .u8 1, .int .u8 (L.length : Int)] 5 (0, 0))) 2
      have HRD := Lib.hid hrd
      have HOA := Lib.hid (HO.out.alloc (.cells #[.int .u8 1, .int .u8 (L.length : Int)] 5 (0, 0)))
      have HBA := Lib.hid (HB.out.alloc HB.out.size (.cells #[.int .u8 1, .int .u8 (L.length : Int)] 5 (0, 0)))
      clear hrd
      go_upto_region 8 with (at_builtin; refine wpList_append_rd _ rfl (.tmp 32) (.tmp 38) 26 rfl w2.heap.size 5 (.int .u8 0) 1 1 Try.underlying26 infoU8 rfl (by decide) _ _ _ rfl HOA.out _ 2 [.int .u8 1, .int .u8 (L.length : Int)] rfl HRD.out ?c1 ?c2 (by decide) HBA.out.size ?_; (case c1 => intro u hu; simp at hu; rcases hu with rfl | rfl <;> rfl); (case c2 => decide); intro vw6 w6 hown hbel hg; have HOn := Lib.hid hown; have HBn := Lib.hid (HBA.out.trans hbel); clear hown hbel hg)
      clear HO HB HRD HOA HBA
      have hu8 : [.int .u8 1, .int .u8 (L.length : Int)] = bvs [flagB true, UInt8.ofNat L.length] := bvs_flag true L.length (by omega)
      rw [hu8, ← bvs_append] at HOn
      clear hu8
      obtain ⟨M2, hM2⟩ : ∃ M, M1 ++ [flagB true, UInt8.ofNat L.length] = M := ⟨_, rfl⟩
      have HO : Hid (w6.ownsRow w2.heap.size 5 1 vw6 (18) (bvs M2)) := Lib.hid (by have := HOn.out; rw [hM2] at this; exact this)
      have HB := HBn
      have HM2 := Lib.hid hM2
      clear hM2 HOn HBn
      obtain ⟨sw6, cw6, rfl⟩ := own_slice1 HO.out
      clear c2 c3 c5
      have c3 : w6.cell? ⟨w.heap.size, 3, none⟩ = some (.int .i64 (n : Int)) := (HB.out.cell (p := ⟨w.heap.size, 3, none⟩) hpl).trans HC3.out
      have hcn : IntKind.u64.wrap (n : Int) = (n : Int) := by rw [IntKind.wrap_u64]; omega
      have yn : (n : Int) % 18446744073709551616 = (n : Int) := by omega
      have HL2 := fun W => HLOW.out 2 n (by omega) (by decide) W
      go_upto_region 9 with (first
        | (go_at_call 56; go_must (refine (HL2 _).out.mono ?_; rintro e w7 ⟨vw7, rfl, ho, hb⟩; have HP := Lib.hid (own_below HO.out hb); have HR := Lib.hid (own_rd ho); have HBL := Lib.hid (HB.out.trans (hb.mono HB.out.size)); clear ho hb))
        | (at_builtin; refine wpList_append_rd _ rfl (.tmp 40) (.tmp 44) 26 rfl w2.heap.size 5 (.int .u8 0) 1 1 Try.underlying26 infoU8 rfl (by decide) _ _ _ rfl HP.out _ _ (bvs (le 2 n)) rfl HR.out (bvs_oneCell _) ?c2 (by decide) HBL.out.size ?_; (case c2 => rw [le_length]; decide); intro vw8 w8 hown hbel hg; rw [← bvs_append] at hown; have HOn := Lib.hid hown; have HBn := Lib.hid (HBL.out.trans hbel); clear hown hbel hg))
      clear HO HB HP HR HBL
      obtain ⟨M3, hM3⟩ : ∃ M, M2 ++ le 2 n = M := ⟨_, rfl⟩
      have HO : Hid (w8.ownsRow w2.heap.size 5 1 vw8 (20) (bvs M3)) := Lib.hid (by have := HOn.out; rw [hM3, le_length] at this; exact this)
      have HB := HBn
      have HM3 := Lib.hid hM3
      clear hM3 HOn HBn
      obtain ⟨sw8, cw8, rfl⟩ := own_slice1 HO.out
      clear c3 HL2
      have c4 : w8.cell? ⟨w.heap.size, 4, none⟩ = some (.int .u32 (time : Int)) := (HB.out.cell (p := ⟨w.heap.size, 4, none⟩) hpl).trans HC4.out
      have hct : IntKind.u64.wrap (time : Int) = (time : Int) := by rw [IntKind.wrap_u64]; omega
      have yt : (time : Int) % 18446744073709551616 = (time : Int) := by omega
      have HL4 := fun W => HLOW.out 4 time (by omega) (by decide) W
      go_upto_region 10 with (first
        | (go_at_call 56; go_must (refine (HL4 _).out.mono ?_; rintro e w9 ⟨vw9, rfl, ho, hb⟩; have HP := Lib.hid (own_below HO.out hb); have HR := Lib.hid (own_rd ho); have HBL := Lib.hid (HB.out.trans (hb.mono HB.out.size)); clear ho hb))
        | (at_builtin; refine wpList_append_rd _ rfl (.tmp 46) (.tmp 50) 26 rfl w2.heap.size 5 (.int .u8 0) 1 1 Try.underlying26 infoU8 rfl (by decide) _ _ _ rfl HP.out _ _ (bvs (le 4 time)) rfl HR.out (bvs_oneCell _) ?c2 (by decide) HBL.out.size ?_; (case c2 => rw [le_length]; decide); intro vw10 w10 hown hbel hg; rw [← bvs_append] at hown; have HOn := Lib.hid hown; have HBn := Lib.hid (HBL.out.trans hbel); clear hown hbel hg))
      clear HO HB HP HR HBL
      obtain ⟨M4, hM4⟩ : ∃ M, M3 ++ le 4 time = M := ⟨_, rfl⟩
      have HO : Hid (w10.ownsRow w2.heap.size 5 1 vw10 (24) (bvs M4)) := Lib.hid (by have := HOn.out; rw [hM4, le_length] at this; exact this)
      have HB := HBn
      have HM4 := Lib.hid hM4
      clear hM4 HOn HBn
      obtain ⟨sw10, cw10, rfl⟩ := own_slice1 HO.out
      clear c4 HL4
      have HH4 : Hid (fB (Smy.head ⟨seq, first, true, (n : Int), time, L⟩) = M4) := Lib.hid (by rw [HHD.out, HM1.out, HM2.out, HM3.out, HM4.out])
      clear HM1 HM2 HM3 HM4 HHD hcv y0 hcn yn hct yt g0 g1 g2
      have HTw := Lib.hid ((HB.out.block (w.heap.size + 1) (by have := HS2.out; omega)).trans HT2.out)
      have hst : Hid (w10.ownsRow w2.heap.size 5 1 (.slice sw10 24 cw10) (24 + 9 * 0) (bvs (M4 ++ fB (entryAll (L.take 0))))) := Lib.hid (by have := HO.out; simpa [entryAll, fB] using this)
      clear HO
      go_wp2
      go_loopw [4, 6] (fun vb i wr => ∃ k : Nat, k ≤ L.length ∧ i = .int .i64 (k : Int) ∧ Hid (wr.ownsRow w2.heap.size 5 1 vb (24 + 9 * k) (bvs (M4 ++ fB (entryAll (L.take k))))) ∧ Hid ((L.take k).all entGood = true) ∧ Hid (Below w2.heap.size w2 wr)) (fun _ i _ => (L.length - intOf i).toNat)
      case atStart => exact ⟨0, by omega, rfl, hst, Lib.hid rfl, HB⟩
      case round =>
        clear hst HB HTw
        obtain ⟨k, hk, rfl, HO, HK, HB⟩ := hrel
        obtain ⟨sk, ck, rfl⟩ := own_slice1 HO.out
        have HTk := Lib.hid ((HB.out.block (w.heap.size + 1) (by have := HS2.out; omega)).trans HT2.out)
        have c5 : wr.cell? ⟨w.heap.size, 5, none⟩ = some (.slice A L.length c) := (HB.out.cell (p := ⟨w.heap.size, 5, none⟩) hpl).trans HC5.out
        by_cases hlt : k < L.length
        · obtain ⟨x, hx⟩ : ∃ x, L[k]? = some x := ⟨_, List.getElem?_eq_getElem hlt⟩
          obtain ⟨b, o, rfl, hr⟩ := rows_at Ent5.cells_len HR2.out hx
          have hbl : b < w2.heap.size := World.block_lt_of_cell? w2 ⟨b, o + k * 4 + 0, none⟩ (hr 0 _ rfl)
          have hr2 : wr.rangeAt b (o + k * 4) x.cells := fun j u hu => (HB.out.cell (p := ⟨b, o + k * 4 + j, none⟩) hbl).trans (hr j u hu)
          have hxo := HE.out x (List.mem_of_getElem? hx)
          have hgd := ent_good x hxo
          have HX := Lib.hid hx
          have hlti : (k : Int) < (L.length : Int) := by omega
          obtain ⟨kd, nu, ve, ix⟩ := x
          obtain ⟨x0, x1, x2, x3⟩ := hxo
          dsimp only at x0 x1 x2 x3
          have e0 : wr.cell? ⟨b, o + k * 4, none⟩ = some (.int .i64 kd) := hr2 0 _ rfl
          have e1 : wr.cell? ⟨b, o + k * 4 + 1, none⟩ = some (.int .u32 (nu : Int)) := hr2 1 _ rfl
          have e2 : wr.cell? ⟨b, o + k * 4 + 2, none⟩ = some (.int .u32 (ve : Int)) := hr2 2 _ rfl
          have e3 : wr.cell? ⟨b, o + k * 4 + 3, none⟩ = some (.int .i64 ix) := hr2 3 _ rfl
          have HGD := Lib.hid hgd
          clear hr hr2 hx hgd
          go_upto_region 14 with fail
          have hba := (Below.refl wr.heap.size wr).alloc (Nat.le_refl _) (.cells #[.int .i64 kd, .int .u32 (nu : Int), .int .u32 (ve : Int), .int .i64 ix] 162 (0, 0))
          have hne := heap_alloc_last wr (.cells #[.int .i64 kd, .int .u32 (nu : Int), .int .u32 (ve : Int), .int .i64 ix] 162 (0, 0))
          have hOa := own_below HO.out hba
          have hnb : Value.ownBlock (.slice sk (24 + 9 * k) ck) ≠ some wr.heap.size := fun e => Nat.lt_irrefl _ (own_block_lt HO.out _ e)
          have hBa := HB.out.trans (hba.mono HB.out.size)
          have hTa := old_heap HTk.out hba
          clear hba c5 e0 e1 e2 e3 HO HB HTk
          revert hne hOa hBa hTa hnb
          generalize wr.alloc (.cells #[.int .i64 kd, .int .u32 (nu : Int), .int .u32 (ve : Int), .int .i64 ix] 162 (0, 0)) = wa
          generalize wr.heap.size = pe
          intro hne hOa hnb hBa hTa
          have HNB := Lib.hid hnb
          have HO := Lib.hid hOa
          have HB := Lib.hid hBa
          have HTa := Lib.hid hTa
          have HNE := Lib.hid hne
          clear hne hOa hBa hTa hnb
          have f0 : wa.cell? ⟨pe, 0, none⟩ = some (.int .i64 kd) := cell_row HNE.out 0
          have f1 : wa.cell? ⟨pe, 1, none⟩ = some (.int .u32 (nu : Int)) := cell_row HNE.out 1
          have f3 : wa.cell? ⟨pe, 3, none⟩ = some (.int .i64 ix) := cell_row HNE.out 3
          by_cases hq : EntGood ⟨kd, nu, ve, ix⟩
          rotate_left
          · have HBAD : Hid (sumWr ⟨seq, first, true, (n : Int), time, L⟩ = false) := Lib.hid (by
              have h1 : entGood ⟨kd, nu, ve, ix⟩ = false := by rw [Bool.eq_false_iff]; exact fun h => hq (HGD.out.1 h)
              have h2 : L.all entGood = false := by rw [List.all_eq_false]; exact ⟨_, List.mem_of_getElem? HX.out, by rw [h1]; simp⟩
              rw [HWR.out, h2])
            have HB4 := Lib.hid (HB2.out.trans (HB.out.mono (by have := HS2.out; omega)))
            unfold EntGood at hq
            dsimp only at hq
            have hcut : ∀ G : Prop, (kd < 1 → G) → (¬ kd < 1 → 6 < kd → G) → (¬ kd < 1 → ¬ 6 < kd → 65535 < (nu : Int) → G) → (¬ kd < 1 → ¬ 6 < kd → ¬ 65535 < (nu : Int) → ix < 0 → G) → (¬ kd < 1 → ¬ 6 < kd → ¬ 65535 < (nu : Int) → ¬ ix < 0 → 65535 < ix → G) → G := fun G a1 a2 a3 a4 a5 => by
              by_cases h1 : kd < 1
              · exact a1 h1
              · by_cases h2 : 6 < kd
                · exact a2 h1 h2
                · by_cases h3 : 65535 < (nu : Int)
                  · exact a3 h1 h2 h3
                  · by_cases h4 : ix < 0
                    · exact a4 h1 h2 h3 h4
                    · exact a5 h1 h2 h3 h4 (by omega)
            clear hq
            refine hcut _ ?_ ?_ ?_ ?_ ?_ <;> clear hcut <;> intros
            all_goals
              go_wp2_with (refine wpList_store_row rfl 28 (.tmp 2) (.tmp 87) rfl (w.heap.size + 1) zArr zArr 28 rfl rfl HTa.out (by rw [zArr_size]; exact size_arr) rfl zArr_one ?_)
              have hld := run_loadVar_row (P := Try.prog) (wa.setRow (w.heap.size + 1) zArr) (w.heap.size + 1) 28 28 zArr (0, 0) _ (setRow_heap _ _ _ _ _ _ HTa.out) Try.underlying28 (by simp) (by rw [zArr_size]; exact size_arr)
              exact bodyPost_ret (v := .tuple #[secV (List.replicate 128 0), .bool false]) (results_cell2 Try.results40 rfl rfl hld) rfl (rsS_no HBAD.out rfl (below_row HB4.out (by omega)))
          · have HGO := Lib.hid (HGD.out.2 hq)
            unfold EntGood at hq
            dsimp only at hq
            obtain ⟨⟨k1, k2⟩, n1, i1, i2⟩ := hq
            obtain ⟨kn, rfl⟩ : ∃ kn : Nat, kd = (kn : Int) := ⟨kd.toNat, by omega⟩
            obtain ⟨xn, rfl⟩ : ∃ xn : Nat, ix = (xn : Int) := ⟨ix.toNat, by omega⟩
            have g0 : ¬ (kn : Int) < 1 := by omega
            have g1 : ¬ 6 < (kn : Int) := by omega
            have g2 : ¬ 65535 < (nu : Int) := by omega
            have g3 : ¬ (xn : Int) < 0 := by omega
            have g4 : ¬ 65535 < (xn : Int) := by omega
            have hcv : IntKind.u8.wrap (kn : Int) = (kn : Int) := by unfold IntKind.wrap; simp [IntKind.signed, IntKind.bits]; omega
            have y0 : (kn : Int) % 256 = (kn : Int) := by omega
            have hEB := ent_bytes kn nu ve xn (by omega) n1 x2 (by omega)
            have HEB := Lib.hid hEB
            clear hEB
            go_upto_region 16 with fail
            obtain ⟨P0, hP0⟩ : ∃ P, M4 ++ fB (entryAll (L.take k)) = P := ⟨_, rfl⟩
            rw [hP0] at HO
            have HP0 := Lib.hid hP0
            clear hP0 g0 g1 g2 g3 g4
            have hrd := rd_one (heap_alloc_new wa (.cells #[.int .u8 (kn : Int)] 5 (0, 0))) 1
            have HRD := Lib.hid hrd
            have hba := (Below.refl wa.heap.size wa).alloc (Nat.le_refl _) (.cells #[.int .u8 (kn : Int)] 5 (0, 0))
            have HOA := Lib.hid (own_below HO.out hba)
            have HBA := Lib.hid (HB.out.trans (hba.mono HB.out.size))
            have HNA := Lib.hid (old_heap HNE.out hba)
            clear hrd hba
            go_upto_region 17 with (at_builtin; refine wpList_append_rd_at _ rfl (.tmp 88) (.tmp 92) 26 rfl w2.heap.size 5 (.int .u8 0) 1 1 Try.underlying26 infoU8 rfl (by decide) _ _ _ rfl HOA.out _ 1 [.int .u8 (kn : Int)] rfl HRD.out ?c1 ?c2 (by decide) HBA.out.size ?_; (case c1 => intro u hu; simp at hu; subst hu; rfl); (case c2 => omega); intro vw12 w12 hown hbel hg hat; have HOn := Lib.hid hown; have HBn := Lib.hid (HBA.out.trans hbel); have HN12 := Lib.hid (side_keep HNA.out HNB.out hg); have HNB12 := Lib.hid (side_own HNA.out HNB.out hat); clear hown hbel hg hat)
            clear HO HB HRD HOA HBA HNA HNB HNE
            have hu8 : [.int .u8 (kn : Int)] = bvs [UInt8.ofNat kn] := bvs_ofNat kn (by omega)
            rw [hu8, ← bvs_append] at HOn
            clear hu8 hcv y0 f0 f1 f3
            obtain ⟨P1, hP1⟩ : ∃ M, P0 ++ [UInt8.ofNat kn] = M := ⟨_, rfl⟩
            have HO : Hid (w12.ownsRow w2.heap.size 5 1 vw12 (24 + 9 * k + 1) (bvs P1)) := Lib.hid (by have := HOn.out; rw [hP1] at this; exact this)
            have HB := HBn
            have HP1 := Lib.hid hP1
            clear hP1 HOn HBn
            obtain ⟨sw12, cw12, rfl⟩ := own_slice1 HO.out
            have ff : w12.cell? ⟨pe, 1, none⟩ = some (.int .u32 (nu : Int)) := cell_row HN12.out 1
            have hcv : IntKind.u64.wrap (nu : Int) = (nu : Int) := by rw [IntKind.wrap_u64]; omega
            have y0 : (nu : Int) % 18446744073709551616 = (nu : Int) := by omega
            have HLW := fun W => HLOW.out 2 nu (by omega) (by decide) W
            go_upto_region 18 with (first
              | (go_at_call 56; go_must (refine (HLW _).out.mono ?_; rintro e w13 ⟨vw13, rfl, ho, hb⟩; have HP := Lib.hid (own_below HO.out hb); have HR := Lib.hid (own_rd ho); have HBL := Lib.hid (HB.out.trans (hb.mono HB.out.size)); have HNL := Lib.hid (old_heap HN12.out hb); clear ho hb))
              | (at_builtin; refine wpList_append_rd_at _ rfl (.tmp 94) (.tmp 98) 26 rfl w2.heap.size 5 (.int .u8 0) 1 1 Try.underlying26 infoU8 rfl (by decide) _ _ _ rfl HP.out _ _ (bvs (le 2 nu)) rfl HR.out (bvs_oneCell _) ?c2 (by decide) HBL.out.size ?_; (case c2 => rw [le_length]; omega); intro vw14 w14 hown hbel hg hat; rw [← bvs_append] at hown; have HOn := Lib.hid hown; have HBn := Lib.hid (HBL.out.trans hbel); have HN14 := Lib.hid (side_keep HNL.out HNB12.out hg); have HNB14 := Lib.hid (side_own HNL.out HNB12.out hat); clear hown hbel hg hat))
            clear HO HB HP HR HBL HNL HLW hcv y0 ff HN12 HNB12
            obtain ⟨P2, hP2⟩ : ∃ M, P1 ++ le 2 nu = M := ⟨_, rfl⟩
            have HO : Hid (w14.ownsRow w2.heap.size 5 1 vw14 (24 + 9 * k + 1 + 2) (bvs P2)) := Lib.hid (by have := HOn.out; rw [hP2, le_length] at this; exact this)
            have HB := HBn
            have HP2 := Lib.hid hP2
            clear hP2 HOn HBn
            obtain ⟨sw14, cw14, rfl⟩ := own_slice1 HO.out
            have ff : w14.cell? ⟨pe, 2, none⟩ = some (.int .u32 (ve : Int)) := cell_row HN14.out 2
            have hcv : IntKind.u64.wrap (ve : Int) = (ve : Int) := by rw [IntKind.wrap_u64]; omega
            have y0 : (ve : Int) % 18446744073709551616 = (ve : Int) := by omega
            have HLW := fun W => HLOW.out 4 ve (by omega) (by decide) W
            go_upto_region 19 with (first
              | (go_at_call 56; go_must (refine (HLW _).out.mono ?_; rintro e w15 ⟨vw15, rfl, ho, hb⟩; have HP := Lib.hid (own_below HO.out hb); have HR := Lib.hid (own_rd ho); have HBL := Lib.hid (HB.out.trans (hb.mono HB.out.size)); have HNL := Lib.hid (old_heap HN14.out hb); clear ho hb))
              | (at_builtin; refine wpList_append_rd_at _ rfl (.tmp 100) (.tmp 104) 26 rfl w2.heap.size 5 (.int .u8 0) 1 1 Try.underlying26 infoU8 rfl (by decide) _ _ _ rfl HP.out _ _ (bvs (le 4 ve)) rfl HR.out (bvs_oneCell _) ?c2 (by decide) HBL.out.size ?_; (case c2 => rw [le_length]; omega); intro vw16 w16 hown hbel hg hat; rw [← bvs_append] at hown; have HOn := Lib.hid hown; have HBn := Lib.hid (HBL.out.trans hbel); have HN16 := Lib.hid (side_keep HNL.out HNB14.out hg); have HNB16 := Lib.hid (side_own HNL.out HNB14.out hat); clear hown hbel hg hat))
            clear HO HB HP HR HBL HNL HLW hcv y0 ff HN14 HNB14
            obtain ⟨P3, hP3⟩ : ∃ M, P2 ++ le 4 ve = M := ⟨_, rfl⟩
            have HO : Hid (w16.ownsRow w2.heap.size 5 1 vw16 (24 + 9 * k + 1 + 2 + 4) (bvs P3)) := Lib.hid (by have := HOn.out; rw [hP3, le_length] at this; exact this)
            have HB := HBn
            have HP3 := Lib.hid hP3
            clear hP3 HOn HBn
            obtain ⟨sw16, cw16, rfl⟩ := own_slice1 HO.out
            have ff : w16.cell? ⟨pe, 3, none⟩ = some (.int .i64 (xn : Int)) := cell_row HN16.out 3
            have hcv : IntKind.u64.wrap (xn : Int) = (xn : Int) := by rw [IntKind.wrap_u64]; omega
            have y0 : (xn : Int) % 18446744073709551616 = (xn : Int) := by omega
            have HLW := fun W => HLOW.out 2 xn (by omega) (by decide) W
            go_wp2_with (first
              | (go_at_call 56; go_must (refine (HLW _).out.mono ?_; rintro e w17 ⟨vw17, rfl, ho, hb⟩; have HP := Lib.hid (own_below HO.out hb); have HR := Lib.hid (own_rd ho); have HBL := Lib.hid (HB.out.trans (hb.mono HB.out.size)); have HNL := Lib.hid (old_heap HN16.out hb); clear ho hb))
              | (at_builtin; refine wpList_append_rd_at _ rfl (.tmp 106) (.tmp 110) 26 rfl w2.heap.size 5 (.int .u8 0) 1 1 Try.underlying26 infoU8 rfl (by decide) _ _ _ rfl HP.out _ _ (bvs (le 2 xn)) rfl HR.out (bvs_oneCell _) ?c2 (by decide) HBL.out.size ?_; (case c2 => rw [le_length]; omega); intro vw20 w20 hown hbel hg hat; rw [← bvs_append] at hown; have HOn := Lib.hid hown; have HBn := Lib.hid (HBL.out.trans hbel); have HN20 := Lib.hid (side_keep HNL.out HNB16.out hg); have HNB20 := Lib.hid (side_own HNL.out HNB16.out hat); clear hown hbel hg hat))
            clear HO HB HP HR HBL HNL HLW hcv y0 ff HN16 HNB16
            obtain ⟨P4, hP4⟩ : ∃ M, P3 ++ le 2 xn = M := ⟨_, rfl⟩
            have HO : Hid (w20.ownsRow w2.heap.size 5 1 vw20 (24 + 9 * k + 1 + 2 + 4 + 2) (bvs P4)) := Lib.hid (by have := HOn.out; rw [hP4, le_length] at this; exact this)
            have HB := HBn
            have HP4 := Lib.hid hP4
            clear hP4 HOn HBn
            obtain ⟨sw20, cw20, rfl⟩ := own_slice1 HO.out
            have HO9 : Hid (w20.ownsRow w2.heap.size 5 1 (.slice sw20 (24 + 9 * k + 1 + 2 + 4 + 2) cw20) (24 + 9 * (k + 1)) (bvs (M4 ++ fB (entryAll (L.take (k + 1)))))) := Lib.hid (by
              have h1 := HO.out
              rw [entryAll_snoc L k _ HX.out, fB_append, HEB.out]
              rw [← HP4.out, ← HP3.out, ← HP2.out, ← HP1.out, ← HP0.out] at h1
              have h2 : M4 ++ fB (entryAll (L.take k)) ++ [UInt8.ofNat kn] ++ le 2 nu ++ le 4 ve ++ le 2 xn = M4 ++ (fB (entryAll (L.take k)) ++ ([UInt8.ofNat kn] ++ le 2 nu ++ le 4 ve ++ le 2 xn)) := by simp only [List.append_assoc]
              rw [← h2]
              exact h1)
            have HK2 : Hid ((L.take (k + 1)).all entGood = true) := Lib.hid (by
              obtain ⟨hk3, e3⟩ := List.getElem?_eq_some_iff.1 HX.out
              rw [List.take_succ_eq_append_getElem hk3, List.all_append, HK.out, e3]
              simp [HGO.out])
            go_roundw
            case rel => exact ⟨k + 1, by omega, by go_num, HO9, HK2, HB⟩
            case measure => simp [intOf]; omega
        · obtain rfl : k = L.length := by omega
          have hge : ¬ (L.length : Int) < (L.length : Int) := by omega
          have hall := HK.out
          rw [List.take_length] at hall
          have hO := HO.out
          rw [List.take_length] at hO
          have HGOOD : Hid (sumWr ⟨seq, first, true, (n : Int), time, L⟩ = true) := Lib.hid (by rw [HWR.out, hall])
          obtain ⟨M, hM⟩ : ∃ M, M4 ++ fB (entryAll L) = M := ⟨_, rfl⟩
          have HLE : Hid (fB (sumL ⟨seq, first, true, (n : Int), time, L⟩) = M) := Lib.hid (by unfold sumL; rw [fB_append, HH4.out]; exact hM)
          rw [hM] at hO
          have HBY := Lib.hid (own_byt hO).1
          have HMK := Lib.hid (rmake_any 3 _ M wr HBY.out)
          have hms : (bvs (makeS 3 M)).toArray.size = 128 := by rw [secV_size, makeS_length]
          have HMS := Lib.hid hms
          clear hM hO hall hms HK HO
          obtain ⟨S, hS⟩ : ∃ S, makeS 3 M = S := ⟨_, rfl⟩
          obtain ⟨N, hN⟩ : ∃ N, mayB 3 M = N := ⟨_, rfl⟩
          rw [hS, hN] at HMK
          rw [hS] at HMS
          have HS := Lib.hid hS
          have HN := Lib.hid hN
          clear hS hN
          unfold secV at HMK
          go_wp2_with (first
            | (go_at_call 57; go_must (refine HMK.out.mono ?_; rintro e w14 ⟨rfl, hb14⟩; have HT14 := Lib.hid (old_heap HTk.out hb14); have HB14 := Lib.hid (bnext (HB2.out.trans (HB.out.mono (by have := HS2.out; omega))) hb14); clear hb14))
            | (refine wpList_store_row rfl 28 (.tmp 2) (.tmp 114) rfl (w.heap.size + 1) zArr (bvs S).toArray 28 rfl rfl HT14.out (by rw [HMS.out]; exact size_arr) (by rw [HMS.out, zArr_size]) (sec_one _) ?_))
          have hld := run_loadVar_row (P := Try.prog) (w14.setRow (w.heap.size + 1) (bvs S).toArray) (w.heap.size + 1) 28 28 (bvs S).toArray (0, 0) _ (setRow_heap _ _ _ _ _ _ HT14.out) Try.underlying28 (by simp) (by rw [HMS.out]; exact size_arr)
          exact bodyPost_ret (v := .tuple #[secV S, .bool N]) (results_cell2 Try.results40 rfl rfl hld) rfl (rsS_yes HGOOD.out (by rw [HLE.out, HS.out, HN.out]) (below_row HB14.out (by omega)))
    ·
      go_upto_region 7 with fail
      have hrd := rd_two (heap_alloc_new w5 (.cells #[.int .u8 0, .int .u8 (L.length : Int)] 5 (0, 0))) 2
      have HRD := Lib.hid hrd
      have HOA := Lib.hid (HO.out.alloc (.cells #[.int .u8 0, .int .u8 (L.length : Int)] 5 (0, 0)))
      have HBA := Lib.hid (HB.out.alloc HB.out.size (.cells #[.int .u8 0, .int .u8 (L.length : Int)] 5 (0, 0)))
      clear hrd
      go_upto_region 8 with (at_builtin; refine wpList_append_rd _ rfl (.tmp 32) (.tmp 38) 26 rfl w2.heap.size 5 (.int .u8 0) 1 1 Try.underlying26 infoU8 rfl (by decide) _ _ _ rfl HOA.out _ 2 [.int .u8 0, .int .u8 (L.length : Int)] rfl HRD.out ?c1 ?c2 (by decide) HBA.out.size ?_; (case c1 => intro u hu; simp at hu; rcases hu with rfl | rfl <;> rfl); (case c2 => decide); intro vw6 w6 hown hbel hg; have HOn := Lib.hid hown; have HBn := Lib.hid (HBA.out.trans hbel); clear hown hbel hg)
      clear HO HB HRD HOA HBA
      have hu8 : [.int .u8 0, .int .u8 (L.length : Int)] = bvs [flagB false, UInt8.ofNat L.length] := bvs_flag false L.length (by omega)
      rw [hu8, ← bvs_append] at HOn
      clear hu8
      obtain ⟨M2, hM2⟩ : ∃ M, M1 ++ [flagB false, UInt8.ofNat L.length] = M := ⟨_, rfl⟩
      have HO : Hid (w6.ownsRow w2.heap.size 5 1 vw6 (18) (bvs M2)) := Lib.hid (by have := HOn.out; rw [hM2] at this; exact this)
      have HB := HBn
      have HM2 := Lib.hid hM2
      clear hM2 HOn HBn
      obtain ⟨sw6, cw6, rfl⟩ := own_slice1 HO.out
      clear c2 c3 c5
      have c3 : w6.cell? ⟨w.heap.size, 3, none⟩ = some (.int .i64 (n : Int)) := (HB.out.cell (p := ⟨w.heap.size, 3, none⟩) hpl).trans HC3.out
      have hcn : IntKind.u64.wrap (n : Int) = (n : Int) := by rw [IntKind.wrap_u64]; omega
      have yn : (n : Int) % 18446744073709551616 = (n : Int) := by omega
      have HL2 := fun W => HLOW.out 2 n (by omega) (by decide) W
      go_upto_region 9 with (first
        | (go_at_call 56; go_must (refine (HL2 _).out.mono ?_; rintro e w7 ⟨vw7, rfl, ho, hb⟩; have HP := Lib.hid (own_below HO.out hb); have HR := Lib.hid (own_rd ho); have HBL := Lib.hid (HB.out.trans (hb.mono HB.out.size)); clear ho hb))
        | (at_builtin; refine wpList_append_rd _ rfl (.tmp 40) (.tmp 44) 26 rfl w2.heap.size 5 (.int .u8 0) 1 1 Try.underlying26 infoU8 rfl (by decide) _ _ _ rfl HP.out _ _ (bvs (le 2 n)) rfl HR.out (bvs_oneCell _) ?c2 (by decide) HBL.out.size ?_; (case c2 => rw [le_length]; decide); intro vw8 w8 hown hbel hg; rw [← bvs_append] at hown; have HOn := Lib.hid hown; have HBn := Lib.hid (HBL.out.trans hbel); clear hown hbel hg))
      clear HO HB HP HR HBL
      obtain ⟨M3, hM3⟩ : ∃ M, M2 ++ le 2 n = M := ⟨_, rfl⟩
      have HO : Hid (w8.ownsRow w2.heap.size 5 1 vw8 (20) (bvs M3)) := Lib.hid (by have := HOn.out; rw [hM3, le_length] at this; exact this)
      have HB := HBn
      have HM3 := Lib.hid hM3
      clear hM3 HOn HBn
      obtain ⟨sw8, cw8, rfl⟩ := own_slice1 HO.out
      clear c3 HL2
      have c4 : w8.cell? ⟨w.heap.size, 4, none⟩ = some (.int .u32 (time : Int)) := (HB.out.cell (p := ⟨w.heap.size, 4, none⟩) hpl).trans HC4.out
      have hct : IntKind.u64.wrap (time : Int) = (time : Int) := by rw [IntKind.wrap_u64]; omega
      have yt : (time : Int) % 18446744073709551616 = (time : Int) := by omega
      have HL4 := fun W => HLOW.out 4 time (by omega) (by decide) W
      go_upto_region 10 with (first
        | (go_at_call 56; go_must (refine (HL4 _).out.mono ?_; rintro e w9 ⟨vw9, rfl, ho, hb⟩; have HP := Lib.hid (own_below HO.out hb); have HR := Lib.hid (own_rd ho); have HBL := Lib.hid (HB.out.trans (hb.mono HB.out.size)); clear ho hb))
        | (at_builtin; refine wpList_append_rd _ rfl (.tmp 46) (.tmp 50) 26 rfl w2.heap.size 5 (.int .u8 0) 1 1 Try.underlying26 infoU8 rfl (by decide) _ _ _ rfl HP.out _ _ (bvs (le 4 time)) rfl HR.out (bvs_oneCell _) ?c2 (by decide) HBL.out.size ?_; (case c2 => rw [le_length]; decide); intro vw10 w10 hown hbel hg; rw [← bvs_append] at hown; have HOn := Lib.hid hown; have HBn := Lib.hid (HBL.out.trans hbel); clear hown hbel hg))
      clear HO HB HP HR HBL
      obtain ⟨M4, hM4⟩ : ∃ M, M3 ++ le 4 time = M := ⟨_, rfl⟩
      have HO : Hid (w10.ownsRow w2.heap.size 5 1 vw10 (24) (bvs M4)) := Lib.hid (by have := HOn.out; rw [hM4, le_length] at this; exact this)
      have HB := HBn
      have HM4 := Lib.hid hM4
      clear hM4 HOn HBn
      obtain ⟨sw10, cw10, rfl⟩ := own_slice1 HO.out
      clear c4 HL4
      have HH4 : Hid (fB (Smy.head ⟨seq, first, false, (n : Int), time, L⟩) = M4) := Lib.hid (by rw [HHD.out, HM1.out, HM2.out, HM3.out, HM4.out])
      clear HM1 HM2 HM3 HM4 HHD hcv y0 hcn yn hct yt g0 g1 g2
      have HTw := Lib.hid ((HB.out.block (w.heap.size + 1) (by have := HS2.out; omega)).trans HT2.out)
      have hst : Hid (w10.ownsRow w2.heap.size 5 1 (.slice sw10 24 cw10) (24 + 9 * 0) (bvs (M4 ++ fB (entryAll (L.take 0))))) := Lib.hid (by have := HO.out; simpa [entryAll, fB] using this)
      clear HO
      go_wp2
      go_loopw [4, 6] (fun vb i wr => ∃ k : Nat, k ≤ L.length ∧ i = .int .i64 (k : Int) ∧ Hid (wr.ownsRow w2.heap.size 5 1 vb (24 + 9 * k) (bvs (M4 ++ fB (entryAll (L.take k))))) ∧ Hid ((L.take k).all entGood = true) ∧ Hid (Below w2.heap.size w2 wr)) (fun _ i _ => (L.length - intOf i).toNat)
      case atStart => exact ⟨0, by omega, rfl, hst, Lib.hid rfl, HB⟩
      case round =>
        clear hst HB HTw
        obtain ⟨k, hk, rfl, HO, HK, HB⟩ := hrel
        obtain ⟨sk, ck, rfl⟩ := own_slice1 HO.out
        have HTk := Lib.hid ((HB.out.block (w.heap.size + 1) (by have := HS2.out; omega)).trans HT2.out)
        have c5 : wr.cell? ⟨w.heap.size, 5, none⟩ = some (.slice A L.length c) := (HB.out.cell (p := ⟨w.heap.size, 5, none⟩) hpl).trans HC5.out
        by_cases hlt : k < L.length
        · obtain ⟨x, hx⟩ : ∃ x, L[k]? = some x := ⟨_, List.getElem?_eq_getElem hlt⟩
          obtain ⟨b, o, rfl, hr⟩ := rows_at Ent5.cells_len HR2.out hx
          have hbl : b < w2.heap.size := World.block_lt_of_cell? w2 ⟨b, o + k * 4 + 0, none⟩ (hr 0 _ rfl)
          have hr2 : wr.rangeAt b (o + k * 4) x.cells := fun j u hu => (HB.out.cell (p := ⟨b, o + k * 4 + j, none⟩) hbl).trans (hr j u hu)
          have hxo := HE.out x (List.mem_of_getElem? hx)
          have hgd := ent_good x hxo
          have HX := Lib.hid hx
          have hlti : (k : Int) < (L.length : Int) := by omega
          obtain ⟨kd, nu, ve, ix⟩ := x
          obtain ⟨x0, x1, x2, x3⟩ := hxo
          dsimp only at x0 x1 x2 x3
          have e0 : wr.cell? ⟨b, o + k * 4, none⟩ = some (.int .i64 kd) := hr2 0 _ rfl
          have e1 : wr.cell? ⟨b, o + k * 4 + 1, none⟩ = some (.int .u32 (nu : Int)) := hr2 1 _ rfl
          have e2 : wr.cell? ⟨b, o + k * 4 + 2, none⟩ = some (.int .u32 (ve : Int)) := hr2 2 _ rfl
          have e3 : wr.cell? ⟨b, o + k * 4 + 3, none⟩ = some (.int .i64 ix) := hr2 3 _ rfl
          have HGD := Lib.hid hgd
          clear hr hr2 hx hgd
          go_upto_region 14 with fail
          have hba := (Below.refl wr.heap.size wr).alloc (Nat.le_refl _) (.cells #[.int .i64 kd, .int .u32 (nu : Int), .int .u32 (ve : Int), .int .i64 ix] 162 (0, 0))
          have hne := heap_alloc_last wr (.cells #[.int .i64 kd, .int .u32 (nu : Int), .int .u32 (ve : Int), .int .i64 ix] 162 (0, 0))
          have hOa := own_below HO.out hba
          have hnb : Value.ownBlock (.slice sk (24 + 9 * k) ck) ≠ some wr.heap.size := fun e => Nat.lt_irrefl _ (own_block_lt HO.out _ e)
          have hBa := HB.out.trans (hba.mono HB.out.size)
          have hTa := old_heap HTk.out hba
          clear hba c5 e0 e1 e2 e3 HO HB HTk
          revert hne hOa hBa hTa hnb
          generalize wr.alloc (.cells #[.int .i64 kd, .int .u32 (nu : Int), .int .u32 (ve : Int), .int .i64 ix] 162 (0, 0)) = wa
          generalize wr.heap.size = pe
          intro hne hOa hnb hBa hTa
          have HNB := Lib.hid hnb
          have HO := Lib.hid hOa
          have HB := Lib.hid hBa
          have HTa := Lib.hid hTa
          have HNE := Lib.hid hne
          clear hne hOa hBa hTa hnb
          have f0 : wa.cell? ⟨pe, 0, none⟩ = some (.int .i64 kd) := cell_row HNE.out 0
          have f1 : wa.cell? ⟨pe, 1, none⟩ = some (.int .u32 (nu : Int)) := cell_row HNE.out 1
          have f3 : wa.cell? ⟨pe, 3, none⟩ = some (.int .i64 ix) := cell_row HNE.out 3
          by_cases hq : EntGood ⟨kd, nu, ve, ix⟩
          rotate_left
          · have HBAD : Hid (sumWr ⟨seq, first, false, (n : Int), time, L⟩ = false) := Lib.hid (by
              have h1 : entGood ⟨kd, nu, ve, ix⟩ = false := by rw [Bool.eq_false_iff]; exact fun h => hq (HGD.out.1 h)
              have h2 : L.all entGood = false := by rw [List.all_eq_false]; exact ⟨_, List.mem_of_getElem? HX.out, by rw [h1]; simp⟩
              rw [HWR.out, h2])
            have HB4 := Lib.hid (HB2.out.trans (HB.out.mono (by have := HS2.out; omega)))
            unfold EntGood at hq
            dsimp only at hq
            have hcut : ∀ G : Prop, (kd < 1 → G) → (¬ kd < 1 → 6 < kd → G) → (¬ kd < 1 → ¬ 6 < kd → 65535 < (nu : Int) → G) → (¬ kd < 1 → ¬ 6 < kd → ¬ 65535 < (nu : Int) → ix < 0 → G) → (¬ kd < 1 → ¬ 6 < kd → ¬ 65535 < (nu : Int) → ¬ ix < 0 → 65535 < ix → G) → G := fun G a1 a2 a3 a4 a5 => by
              by_cases h1 : kd < 1
              · exact a1 h1
              · by_cases h2 : 6 < kd
                · exact a2 h1 h2
                · by_cases h3 : 65535 < (nu : Int)
                  · exact a3 h1 h2 h3
                  · by_cases h4 : ix < 0
                    · exact a4 h1 h2 h3 h4
                    · exact a5 h1 h2 h3 h4 (by omega)
            clear hq
            refine hcut _ ?_ ?_ ?_ ?_ ?_ <;> clear hcut <;> intros
            all_goals
              go_wp2_with (refine wpList_store_row rfl 28 (.tmp 2) (.tmp 87) rfl (w.heap.size + 1) zArr zArr 28 rfl rfl HTa.out (by rw [zArr_size]; exact size_arr) rfl zArr_one ?_)
              have hld := run_loadVar_row (P := Try.prog) (wa.setRow (w.heap.size + 1) zArr) (w.heap.size + 1) 28 28 zArr (0, 0) _ (setRow_heap _ _ _ _ _ _ HTa.out) Try.underlying28 (by simp) (by rw [zArr_size]; exact size_arr)
              exact bodyPost_ret (v := .tuple #[secV (List.replicate 128 0), .bool false]) (results_cell2 Try.results40 rfl rfl hld) rfl (rsS_no HBAD.out rfl (below_row HB4.out (by omega)))
          · have HGO := Lib.hid (HGD.out.2 hq)
            unfold EntGood at hq
            dsimp only at hq
            obtain ⟨⟨k1, k2⟩, n1, i1, i2⟩ := hq
            obtain ⟨kn, rfl⟩ : ∃ kn : Nat, kd = (kn : Int) := ⟨kd.toNat, by omega⟩
            obtain ⟨xn, rfl⟩ : ∃ xn : Nat, ix = (xn : Int) := ⟨ix.toNat, by omega⟩
            have g0 : ¬ (kn : Int) < 1 := by omega
            have g1 : ¬ 6 < (kn : Int) := by omega
            have g2 : ¬ 65535 < (nu : Int) := by omega
            have g3 : ¬ (xn : Int) < 0 := by omega
            have g4 : ¬ 65535 < (xn : Int) := by omega
            have hcv : IntKind.u8.wrap (kn : Int) = (kn : Int) := by unfold IntKind.wrap; simp [IntKind.signed, IntKind.bits]; omega
            have y0 : (kn : Int) % 256 = (kn : Int) := by omega
            have hEB := ent_bytes kn nu ve xn (by omega) n1 x2 (by omega)
            have HEB := Lib.hid hEB
            clear hEB
            go_upto_region 16 with fail
            obtain ⟨P0, hP0⟩ : ∃ P, M4 ++ fB (entryAll (L.take k)) = P := ⟨_, rfl⟩
            rw [hP0] at HO
            have HP0 := Lib.hid hP0
            clear hP0 g0 g1 g2 g3 g4
            have hrd := rd_one (heap_alloc_new wa (.cells #[.int .u8 (kn : Int)] 5 (0, 0))) 1
            have HRD := Lib.hid hrd
            have hba := (Below.refl wa.heap.size wa).alloc (Nat.le_refl _) (.cells #[.int .u8 (kn : Int)] 5 (0, 0))
            have HOA := Lib.hid (own_below HO.out hba)
            have HBA := Lib.hid (HB.out.trans (hba.mono HB.out.size))
            have HNA := Lib.hid (old_heap HNE.out hba)
            clear hrd hba
            go_upto_region 17 with (at_builtin; refine wpList_append_rd_at _ rfl (.tmp 88) (.tmp 92) 26 rfl w2.heap.size 5 (.int .u8 0) 1 1 Try.underlying26 infoU8 rfl (by decide) _ _ _ rfl HOA.out _ 1 [.int .u8 (kn : Int)] rfl HRD.out ?c1 ?c2 (by decide) HBA.out.size ?_; (case c1 => intro u hu; simp at hu; subst hu; rfl); (case c2 => omega); intro vw12 w12 hown hbel hg hat; have HOn := Lib.hid hown; have HBn := Lib.hid (HBA.out.trans hbel); have HN12 := Lib.hid (side_keep HNA.out HNB.out hg); have HNB12 := Lib.hid (side_own HNA.out HNB.out hat); clear hown hbel hg hat)
            clear HO HB HRD HOA HBA HNA HNB HNE
            have hu8 : [.int .u8 (kn : Int)] = bvs [UInt8.ofNat kn] := bvs_ofNat kn (by omega)
            rw [hu8, ← bvs_append] at HOn
            clear hu8 hcv y0 f0 f1 f3
            obtain ⟨P1, hP1⟩ : ∃ M, P0 ++ [UInt8.ofNat kn] = M := ⟨_, rfl⟩
            have HO : Hid (w12.ownsRow w2.heap.size 5 1 vw12 (24 + 9 * k + 1) (bvs P1)) := Lib.hid (by have := HOn.out; rw [hP1] at this; exact this)
            have HB := HBn
            have HP1 := Lib.hid hP1
            clear hP1 HOn HBn
            obtain ⟨sw12, cw12, rfl⟩ := own_slice1 HO.out
            have ff : w12.cell? ⟨pe, 1, none⟩ = some (.int .u32 (nu : Int)) := cell_row HN12.out 1
            have hcv : IntKind.u64.wrap (nu : Int) = (nu : Int) := by rw [IntKind.wrap_u64]; omega
            have y0 : (nu : Int) % 18446744073709551616 = (nu : Int) := by omega
            have HLW := fun W => HLOW.out 2 nu (by omega) (by decide) W
            go_upto_region 18 with (first
              | (go_at_call 56; go_must (refine (HLW _).out.mono ?_; rintro e w13 ⟨vw13, rfl, ho, hb⟩; have HP := Lib.hid (own_below HO.out hb); have HR := Lib.hid (own_rd ho); have HBL := Lib.hid (HB.out.trans (hb.mono HB.out.size)); have HNL := Lib.hid (old_heap HN12.out hb); clear ho hb))
              | (at_builtin; refine wpList_append_rd_at _ rfl (.tmp 94) (.tmp 98) 26 rfl w2.heap.size 5 (.int .u8 0) 1 1 Try.underlying26 infoU8 rfl (by decide) _ _ _ rfl HP.out _ _ (bvs (le 2 nu)) rfl HR.out (bvs_oneCell _) ?c2 (by decide) HBL.out.size ?_; (case c2 => rw [le_length]; omega); intro vw14 w14 hown hbel hg hat; rw [← bvs_append] at hown; have HOn := Lib.hid hown; have HBn := Lib.hid (HBL.out.trans hbel); have HN14 := Lib.hid (side_keep HNL.out HNB12.out hg); have HNB14 := Lib.hid (side_own HNL.out HNB12.out hat); clear hown hbel hg hat))
            clear HO HB HP HR HBL HNL HLW hcv y0 ff HN12 HNB12
            obtain ⟨P2, hP2⟩ : ∃ M, P1 ++ le 2 nu = M := ⟨_, rfl⟩
            have HO : Hid (w14.ownsRow w2.heap.size 5 1 vw14 (24 + 9 * k + 1 + 2) (bvs P2)) := Lib.hid (by have := HOn.out; rw [hP2, le_length] at this; exact this)
            have HB := HBn
            have HP2 := Lib.hid hP2
            clear hP2 HOn HBn
            obtain ⟨sw14, cw14, rfl⟩ := own_slice1 HO.out
            have ff : w14.cell? ⟨pe, 2, none⟩ = some (.int .u32 (ve : Int)) := cell_row HN14.out 2
            have hcv : IntKind.u64.wrap (ve : Int) = (ve : Int) := by rw [IntKind.wrap_u64]; omega
            have y0 : (ve : Int) % 18446744073709551616 = (ve : Int) := by omega
            have HLW := fun W => HLOW.out 4 ve (by omega) (by decide) W
            go_upto_region 19 with (first
              | (go_at_call 56; go_must (refine (HLW _).out.mono ?_; rintro e w15 ⟨vw15, rfl, ho, hb⟩; have HP := Lib.hid (own_below HO.out hb); have HR := Lib.hid (own_rd ho); have HBL := Lib.hid (HB.out.trans (hb.mono HB.out.size)); have HNL := Lib.hid (old_heap HN14.out hb); clear ho hb))
              | (at_builtin; refine wpList_append_rd_at _ rfl (.tmp 100) (.tmp 104) 26 rfl w2.heap.size 5 (.int .u8 0) 1 1 Try.underlying26 infoU8 rfl (by decide) _ _ _ rfl HP.out _ _ (bvs (le 4 ve)) rfl HR.out (bvs_oneCell _) ?c2 (by decide) HBL.out.size ?_; (case c2 => rw [le_length]; omega); intro vw16 w16 hown hbel hg hat; rw [← bvs_append] at hown; have HOn := Lib.hid hown; have HBn := Lib.hid (HBL.out.trans hbel); have HN16 := Lib.hid (side_keep HNL.out HNB14.out hg); have HNB16 := Lib.hid (side_own HNL.out HNB14.out hat); clear hown hbel hg hat))
            clear HO HB HP HR HBL HNL HLW hcv y0 ff HN14 HNB14
            obtain ⟨P3, hP3⟩ : ∃ M, P2 ++ le 4 ve = M := ⟨_, rfl⟩
            have HO : Hid (w16.ownsRow w2.heap.size 5 1 vw16 (24 + 9 * k + 1 + 2 + 4) (bvs P3)) := Lib.hid (by have := HOn.out; rw [hP3, le_length] at this; exact this)
            have HB := HBn
            have HP3 := Lib.hid hP3
            clear hP3 HOn HBn
            obtain ⟨sw16, cw16, rfl⟩ := own_slice1 HO.out
            have ff : w16.cell? ⟨pe, 3, none⟩ = some (.int .i64 (xn : Int)) := cell_row HN16.out 3
            have hcv : IntKind.u64.wrap (xn : Int) = (xn : Int) := by rw [IntKind.wrap_u64]; omega
            have y0 : (xn : Int) % 18446744073709551616 = (xn : Int) := by omega
            have HLW := fun W => HLOW.out 2 xn (by omega) (by decide) W
            go_wp2_with (first
              | (go_at_call 56; go_must (refine (HLW _).out.mono ?_; rintro e w17 ⟨vw17, rfl, ho, hb⟩; have HP := Lib.hid (own_below HO.out hb); have HR := Lib.hid (own_rd ho); have HBL := Lib.hid (HB.out.trans (hb.mono HB.out.size)); have HNL := Lib.hid (old_heap HN16.out hb); clear ho hb))
              | (at_builtin; refine wpList_append_rd_at _ rfl (.tmp 106) (.tmp 110) 26 rfl w2.heap.size 5 (.int .u8 0) 1 1 Try.underlying26 infoU8 rfl (by decide) _ _ _ rfl HP.out _ _ (bvs (le 2 xn)) rfl HR.out (bvs_oneCell _) ?c2 (by decide) HBL.out.size ?_; (case c2 => rw [le_length]; omega); intro vw20 w20 hown hbel hg hat; rw [← bvs_append] at hown; have HOn := Lib.hid hown; have HBn := Lib.hid (HBL.out.trans hbel); have HN20 := Lib.hid (side_keep HNL.out HNB16.out hg); have HNB20 := Lib.hid (side_own HNL.out HNB16.out hat); clear hown hbel hg hat))
            clear HO HB HP HR HBL HNL HLW hcv y0 ff HN16 HNB16
            obtain ⟨P4, hP4⟩ : ∃ M, P3 ++ le 2 xn = M := ⟨_, rfl⟩
            have HO : Hid (w20.ownsRow w2.heap.size 5 1 vw20 (24 + 9 * k + 1 + 2 + 4 + 2) (bvs P4)) := Lib.hid (by have := HOn.out; rw [hP4, le_length] at this; exact this)
            have HB := HBn
            have HP4 := Lib.hid hP4
            clear hP4 HOn HBn
            obtain ⟨sw20, cw20, rfl⟩ := own_slice1 HO.out
            have HO9 : Hid (w20.ownsRow w2.heap.size 5 1 (.slice sw20 (24 + 9 * k + 1 + 2 + 4 + 2) cw20) (24 + 9 * (k + 1)) (bvs (M4 ++ fB (entryAll (L.take (k + 1)))))) := Lib.hid (by
              have h1 := HO.out
              rw [entryAll_snoc L k _ HX.out, fB_append, HEB.out]
              rw [← HP4.out, ← HP3.out, ← HP2.out, ← HP1.out, ← HP0.out] at h1
              have h2 : M4 ++ fB (entryAll (L.take k)) ++ [UInt8.ofNat kn] ++ le 2 nu ++ le 4 ve ++ le 2 xn = M4 ++ (fB (entryAll (L.take k)) ++ ([UInt8.ofNat kn] ++ le 2 nu ++ le 4 ve ++ le 2 xn)) := by simp only [List.append_assoc]
              rw [← h2]
              exact h1)
            have HK2 : Hid ((L.take (k + 1)).all entGood = true) := Lib.hid (by
              obtain ⟨hk3, e3⟩ := List.getElem?_eq_some_iff.1 HX.out
              rw [List.take_succ_eq_append_getElem hk3, List.all_append, HK.out, e3]
              simp [HGO.out])
            go_roundw
            case rel => exact ⟨k + 1, by omega, by go_num, HO9, HK2, HB⟩
            case measure => simp [intOf]; omega
        · obtain rfl : k = L.length := by omega
          have hge : ¬ (L.length : Int) < (L.length : Int) := by omega
          have hall := HK.out
          rw [List.take_length] at hall
          have hO := HO.out
          rw [List.take_length] at hO
          have HGOOD : Hid (sumWr ⟨seq, first, false, (n : Int), time, L⟩ = true) := Lib.hid (by rw [HWR.out, hall])
          obtain ⟨M, hM⟩ : ∃ M, M4 ++ fB (entryAll L) = M := ⟨_, rfl⟩
          have HLE : Hid (fB (sumL ⟨seq, first, false, (n : Int), time, L⟩) = M) := Lib.hid (by unfold sumL; rw [fB_append, HH4.out]; exact hM)
          rw [hM] at hO
          have HBY := Lib.hid (own_byt hO).1
          have HMK := Lib.hid (rmake_any 3 _ M wr HBY.out)
          have hms : (bvs (makeS 3 M)).toArray.size = 128 := by rw [secV_size, makeS_length]
          have HMS := Lib.hid hms
          clear hM hO hall hms HK HO
          obtain ⟨S, hS⟩ : ∃ S, makeS 3 M = S := ⟨_, rfl⟩
          obtain ⟨N, hN⟩ : ∃ N, mayB 3 M = N := ⟨_, rfl⟩
          rw [hS, hN] at HMK
          rw [hS] at HMS
          have HS := Lib.hid hS
          have HN := Lib.hid hN
          clear hS hN
          unfold secV at HMK
          go_wp2_with (first
            | (go_at_call 57; go_must (refine HMK.out.mono ?_; rintro e w14 ⟨rfl, hb14⟩; have HT14 := Lib.hid (old_heap HTk.out hb14); have HB14 := Lib.hid (bnext (HB2.out.trans (HB.out.mono (by have := HS2.out; omega))) hb14); clear hb14))
            | (refine wpList_store_row rfl 28 (.tmp 2) (.tmp 114) rfl (w.heap.size + 1) zArr (bvs S).toArray 28 rfl rfl HT14.out (by rw [HMS.out]; exact size_arr) (by rw [HMS.out, zArr_size]) (sec_one _) ?_))
          have hld := run_loadVar_row (P := Try.prog) (w14.setRow (w.heap.size + 1) (bvs S).toArray) (w.heap.size + 1) 28 28 (bvs S).toArray (0, 0) _ (setRow_heap _ _ _ _ _ _ HT14.out) Try.underlying28 (by simp) (by rw [HMS.out]; exact size_arr)
          exact bodyPost_ret (v := .tuple #[secV S, .bool N]) (results_cell2 Try.results40 rfl rfl hld) rfl (rsS_yes HGOOD.out (by rw [HLE.out, HS.out, HN.out]) (below_row HB14.out (by omega)))
end Go.Proofs.Ytlcbfpcabalgcaa
