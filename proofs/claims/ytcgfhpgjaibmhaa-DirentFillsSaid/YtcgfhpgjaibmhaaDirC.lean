/-
  Entries of a directory: may one be; a block of them is written.
-/
import Derived.Test.YtcgfhpgjaibmhaaDirB
namespace Go.Proofs.Ytcgfhpgjaibmhaa
open Go.RowKit
set_option linter.unusedVariables false
set_option linter.unusedSimpArgs false
def mayE (n : Int) (s : ByteArray) : Bool := if n = 0 then s.size == 0 else decide (0 < n ∧ n ≤ 200 ∧ goodE s.data.toList = 0)
theorem goodE_len {l : List UInt8} (h : goodE l = 0) : l.length ≤ 26 := by
  unfold goodE at h
  split at h
  · cases h
  · split at h
    · cases h
    · split at h
      · cases h
      · omega
theorem may_bounds {n : Int} {s : ByteArray} (h : mayE n s = true) : ∃ k : Nat, n = (k : Int) ∧ k ≤ 200 ∧ s.size ≤ 26 := by
  unfold mayE at h
  split at h
  · rename_i h0; simp only [beq_iff_eq] at h; exact ⟨0, by omega, by omega, by omega⟩
  · simp only [decide_eq_true_eq] at h
    have := goodE_len h.2.2
    have hs : s.data.toList.length = s.size := by simp
    rw [hs] at this
    exact ⟨n.toNat, by omega, by omega, this⟩
theorem empty_iff (s : ByteArray) : s.toList.isEmpty = (s.size == 0) := by
  have hs : s.data.toList.length = s.size := by simp
  rw [ByteArray.toList_eq]
  cases hl : s.data.toList with
  | nil => rw [hl] at hs; simp at hs; rw [← hs]; rfl
  | cons a b => rw [hl] at hs; simp at hs; rw [← hs]; rfl
set_option maxHeartbeats 1000000 in
theorem may_any (n : Int) (s : ByteArray) (w : World) : Calls Try.prog 24 #[.agg #[.int .i64 n, .string s]] w fun e w' => e = .returned (.bool (mayE n s)) ∧ Below w.heap.size w w' := by
  have hbox := (Below.refl w.heap.size w).alloc (Nat.le_refl _) (.cells #[.int .i64 n, .string s] 30 (0, 0))
  have HB := Lib.hid hbox
  clear hbox
  by_cases h0 : n = 0
  · subst h0
    have he : mayE 0 s = s.toList.isEmpty := by rw [empty_iff]; rfl
    have HE := Lib.hid he
    clear he
    go_enter Try.func24, Try.ntmps24
    go_wp2
    go_ret
    exact ⟨by rw [HE.out]; rfl, HB.out⟩
  · have he : mayE n s = decide (0 < n ∧ n ≤ 200 ∧ goodE s.data.toList = 0) := by unfold mayE; rw [if_neg h0]
    have h0' : (n == 0) = false := by simpa using h0
    obtain ⟨ge, hge⟩ : ∃ ge, ge = goodE s.data.toList := ⟨_, rfl⟩
    have HG := fun w' => Lib.hid (good_any s w')
    rw [← hge] at he HG
    by_cases h1 : 0 < n
    · by_cases h2 : n ≤ 200
      · have he2 : mayE n s = (ge == 0) := by rw [he, Bool.eq_iff_iff]; simp [h1, h2]
        have HE := Lib.hid he2
        clear he he2 hge h0
        go_enter Try.func24, Try.ntmps24
        go_wp2_with (go_at_call 9; refine (HG _).out.mono ?_; rintro e w1 ⟨rfl, rfl⟩)
        go_ret
        exact ⟨by rw [HE.out]; rfl, HB.out⟩
      · have he2 : mayE n s = false := by rw [he]; simp [h2]
        have HE := Lib.hid he2
        clear he he2 hge h0
        go_enter Try.func24, Try.ntmps24
        go_wp2
        go_ret
        exact ⟨by rw [HE.out]; rfl, HB.out⟩
    · have he2 : mayE n s = false := by rw [he]; simp [h1]
      have HE := Lib.hid he2
      clear he he2 hge h0
      go_enter Try.func24, Try.ntmps24
      go_wp2
      go_ret
      exact ⟨by rw [HE.out]; rfl, HB.out⟩
/-! ### the bytes of a block -/
def entB (k : Nat) (s : ByteArray) : List UInt8 := le 2 k ++ [UInt8.ofNat s.size] ++ (s.data.toList ++ List.replicate (29 - s.size) 0)
theorem entB_length (k : Nat) (s : ByteArray) (h : s.size ≤ 26) : (entB k s).length = 32 := by
  have hs : s.data.toList.length = s.size := by simp
  simp only [entB, List.length_append, le_length, List.length_cons, List.length_nil, List.length_replicate, hs]; omega
theorem ent_writer (P : List UInt8) (k : Nat) (s : ByteArray) (hP : P.length + 32 ≤ 128) (hk : k ≤ 200) (hs : s.size ≤ 26) :
    wBytes (wNum (wNum (P, 0) 2 k) 1 s.size) 29 s.data.toList = (P ++ entB k s, 0) := by
  have hl : s.data.toList.length = s.size := by simp
  have e2 : ∀ (l : List UInt8) (d x : Nat), 1 ≤ d → d ≤ 8 → l.length + d ≤ 128 → x < 256 ^ d → wNum (l, 0) (d : Int) x = (l ++ le d x, 0) := fun l d x h1 h8 hl hx => by
    have : putOk 128 l.length (d : Int) x = true := by
      unfold putOk; rw [(fitsB_iff _ _ _).2 (by omega)]; simpa using hx
    unfold wNum
    rw [if_pos rfl, if_pos this]; simp
  have a1 := e2 P 2 k (by decide) (by decide) (by omega) (by omega)
  have a2 := e2 (P ++ le 2 k) 1 s.size (by decide) (by decide) (by simp; omega) (by omega)
  rw [show ((2 : Nat) : Int) = 2 from rfl] at a1
  rw [show ((1 : Nat) : Int) = 1 from rfl] at a2
  rw [a1, a2]
  unfold wBytes
  rw [if_pos rfl, if_neg (by simp only [List.length_append, le_length, hl]; omega)]
  have e1 : le 1 s.size = [UInt8.ofNat s.size] := by simp only [le]; rw [Nat.mod_eq_of_lt (by omega)]
  rw [e1, hl]
  simp [entB]
theorem byt_str (w : World) (e : Nat) (s : ByteArray) (fr : Nat × Nat) (hs : s.size ≤ maxLen) : Byt (w.drew.alloc (.cells (bytesRow s (grownCap w s.size 0 e)) e fr)) (.slice (some ⟨w.heap.size, 0, none⟩) s.size (grownCap w s.size 0 e)) s.data.toList := by
  have hl : s.data.toList.length = s.size := by simp
  refine .inr ⟨w.heap.size, 0, _, by rw [hl], by rw [hl]; exact grownCap_ge _ _ _ _, grownCap_le_maxLen _ _ _ _ hs, RdB.row (heap_alloc_last w.drew _) (fun i hi => ?_)⟩
  rw [Nat.zero_add, bytesRow_at s _ i (by simpa using hi)]
  simp only [List.getD_eq_getElem?_getD]
  rw [List.getElem?_eq_getElem hi]
  simp
theorem conv_below (w : World) (o : Obj) : Below w.heap.size w (w.drew.alloc o) := ((Below.refl w.heap.size w).drew).alloc (Nat.le_refl _) o
theorem byt_str' (w : World) (e : Nat) (s : ByteArray) (fr : Nat × Nat) (hs : s.size ≤ maxLen) : Byt (w.alloc (.cells (bytesRow s (grownCap w s.size 0 e)) e fr)).drew (.slice (some ⟨w.heap.size, 0, none⟩) s.size (grownCap w s.size 0 e)) s.data.toList := byt_str w e s fr hs
theorem conv_below' (w : World) (o : Obj) : Below w.heap.size w (w.alloc o).drew := conv_below w o
theorem WrAt.below {w w' : World} {g : Nat} {s : WSt} (h : WrAt w g s) (hb : Below w.heap.size w w') : WrAt w' g s := ⟨h.1, (hb.block g (Array.getElem?_eq_some_iff.1 h.2).1).trans h.2⟩
theorem info_writer : (Try.prog.info? 57).map (fun i => (i.zero, i.size)) = some (some (.agg (wrCells ([], 0))), 130) := by kernel_rfl
theorem zero_writer (w : World) : (zeroValue 57).run Try.prog w = .ok (.agg (wrCells ([], 0))) w := (zero_of_info info_writer).1 w
theorem only_below {g B : Nat} {w w' : World} (h : OnlyAt g w w') (hB : B ≤ g) : Below B w w' := ⟨h.1.os, h.1.tape, h.1.output, h.1.size, fun k hk => by
  by_cases hk2 : k < w.heap.size
  · exact h.1.block k hk2 (by simp; omega)
  · rw [Array.getElem?_eq_none (by rw [h.2]; omega), Array.getElem?_eq_none (by omega)]⟩
/-! ### Write -/
abbrev Ent := Int × ByteArray
def entOk (e : Ent) : Bool := mayE e.1 e.2
def entBs (e : Ent) : List UInt8 := entB e.1.toNat e.2
def entsB : List Ent → Nat → List UInt8
  | _, 0 => []
  | l, j + 1 => entsB l j ++ entBs (l.getD j (0, .empty))
theorem entsB_length (l : List Ent) (h : ∀ j, j < 4 → entOk (l.getD j (0, .empty)) = true) (j : Nat) (hj : j ≤ 4) : (entsB l j).length = 32 * j := by
  induction j with
  | zero => rfl
  | succ j ih =>
    obtain ⟨k, _, _, h26⟩ := may_bounds (h j (by omega))
    simp only [entsB, List.length_append, ih (by omega), entBs, entB_length _ _ h26]; omega
end Go.Proofs.Ytcgfhpgjaibmhaa
