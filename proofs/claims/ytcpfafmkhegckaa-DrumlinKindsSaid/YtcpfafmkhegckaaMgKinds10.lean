/-
  Codec: Summary's pass, when it writes and when it reads.
-/
import Derived.Test.YtcpfafmkhegckaaMgKinds9
import Derived.Test.YtcpfafmkhegckaaMgKinds3
import Derived.Test.YtcpfafmkhegckaaMgKinds5
import Derived.Test.YtcpfafmkhegckaaMgKinds2
import Derived.Test.YtcpfafmkhegckaaMgKinds7
namespace Go.Proofs.Ytcpfafmkhegckaa
open Go.RowKit
set_option linter.unusedVariables false
set_option linter.unusedSimpArgs false
set_option linter.unnecessarySimpa false
structure Smy where
  seq : Nat
  first : Nat
  commit : Bool
  next : Int
  time : Nat
  ents : List Ent5
structure Smy.Ok (x : Smy) : Prop where
  seq : x.seq < 2 ^ 64
  first : x.first < 2 ^ 64
  next : I64 x.next
  time : x.time < 2 ^ 32
  ents : ∀ y ∈ x.ents, y.Ok
  len : x.ents.length ≤ 1000
def sumF (seq first : Nat) (commit : Bool) (next : Int) (time : Nat) (v : Value) : Array Value := #[.int .u64 (seq : Int), .int .u64 (first : Int), .bool commit, .int .i64 next, .int .u32 (time : Int), v]
def Smy.head (x : Smy) : List (Nat × Int) := [(8, (x.seq : Int)), (8, (x.first : Int)), (1, flagN x.commit), (1, (x.ents.length : Int)), (2, x.next), (4, (x.time : Int))]
def sumL (x : Smy) : List (Nat × Int) := x.head ++ entryAll x.ents
theorem readAt_old {α : Type} {w w' : World} {base : Nat} {A : Option Addr} {f : α → List Value} {k : Nat} {L : List α} (h : ReadAt w A f k L) (hA : ∀ a, A = some a → a.block < base) (hb : Below base w w') : ReadAt w' A f k L := fun hne => by
  obtain ⟨b, o, rfl, h2⟩ := h hne
  exact ⟨b, o, rfl, fun i x hx j hj => (hb.cell (p := ⟨b, o + i * k + j, none⟩) (show b < base from hA _ rfl)).trans (h2 i x hx j hj)⟩
set_option maxRecDepth 10000 in
set_option maxHeartbeats 8000000 in
theorem pw_summary {w : World} {base g : Nat} {l : List UInt8} {bad : Bool} (x : Smy) (hx : x.Ok) (A : Option Addr) (c pb : Nat) (h : CwAt w base g l bad) (hb : w.heap[pb]? = some (.cells (sumF x.seq x.first x.commit x.next x.time (.slice A x.ents.length c)) 65 (0, 0))) (hR : ReadAt w A Ent5.cells 4 x.ents)
    (hA : ∀ a, A = some a → a.block < base) (hl : l.length ≤ 900) (hbs : base ≤ w.heap.size) (hpb : pb < base) :
    Calls Try.prog 74 #[wV g, .pointer (some ⟨pb, 0, none⟩)] w (CwTo w base g (l ++ fB (sumL x)) (bad || fBad (sumL x))) := by
  obtain ⟨seq, first, commit, next, time, ents⟩ := x
  obtain ⟨r0, r1, r3, r4, rE, rL⟩ := hx
  dsimp only at hb r0 r1 r3 r4 rE rL hR
  have HW0 := Lib.hid h
  have HB0 := Lib.hid (Below.refl base w)
  have HC := Lib.hid hb
  have HR := Lib.hid hR
  have HA := Lib.hid hA
  have HE := Lib.hid rE
  clear h hb hR hA rE
  have na_wide := fun W => na_w ⟨g, 0, none⟩ W "drumlin/codec.wide" (by simp)
  have mt_wide := fun W => mw_wide ⟨g, 0, none⟩ W
  have na_int := fun W => na_w ⟨g, 0, none⟩ W "drumlin/codec.int" (by simp)
  have mt_int := fun W => mw_int ⟨g, 0, none⟩ W
  have na_word := fun W => na_w ⟨g, 0, none⟩ W "drumlin/codec.word" (by simp)
  have mt_word := fun W => mw_word ⟨g, 0, none⟩ W
  have hRX : ∀ w', Below base w w' → ReadAt w' A Ent5.cells 4 ents := fun w' hb => readAt_old HR.out HA.out hb
  unfold wV
  go_enter Try.func74, Try.ntmps74
  go_upto_region 0 with fail
  have HC0 := Lib.hid (cw_wide 8 seq pb 0 (HW0.out.below (Below.refl _ w).drew) (by decide) r0 (cell_row ((HB0.out.drew.block pb hpb).trans HC.out) 0) (by (try simp only [List.length_append, wB_len, fB_len, List.map_cons, List.map_nil, List.sum_cons, List.sum_nil]); omega) (Nat.le_trans hbs HB0.out.size))
  unfold CwTo at HC0
  refine wp_region_held_drew (S := (fun w' => Below base w w')) (by kernel_rfl) (by exact HB0.out.drew) (fun hHeld => ?_)
  refine take1_ (i := 0) (v := ?_) (a' := ?_) (some 5) #[true, false, false, false, false, false, false, false] rfl rfl (by kernel_rfl) (fun _ _ _ h => h) (Or.inl ⟨by rfl, ?_⟩) hHeld ?_ ?_
  rotate_left
  · (intro w hSw; (try dsimp only at hSw); go_simp; (try with_reducible rfl))
  rotate_left
  · simp only [Act.put, List.setIfInBounds_toArray, List.set_cons_zero, List.set_cons_succ]
    rfl
  refine take1_ (i := 1) (v := ?_) (a' := ?_) (some 6) #[true, true, false, false, false, false, false, false] rfl rfl (by kernel_rfl) (fun _ _ _ h => h) (Or.inl ⟨by rfl, ?_⟩) hHeld ?_ ?_
  rotate_left
  · (intro w hSw; (try dsimp only at hSw); go_simp; (try with_reducible rfl))
  rotate_left
  · simp only [Act.put, List.setIfInBounds_toArray, List.set_cons_zero, List.set_cons_succ]
    rfl
  refine take1_ (i := 2) (v := ?_) (a' := ?_) (some 7) #[true, true, true, false, false, false, false, false] rfl rfl (by kernel_rfl) (fun _ _ _ h => h) (Or.inl ⟨by rfl, ?_⟩) hHeld ?_ ?_
  rotate_left
  · (intro w hSw; (try dsimp only at hSw); go_simp; (try with_reducible rfl))
  rotate_left
  · simp only [Act.put, List.setIfInBounds_toArray, List.set_cons_zero, List.set_cons_succ]
    rfl
  refine take1_ (i := 3) (v := ?_) (a' := ?_) (some 8) #[true, true, true, true, false, false, false, false] rfl rfl (by kernel_rfl) (fun _ _ _ h => h) (Or.inl ⟨by rfl, ?_⟩) hHeld ?_ ?_
  rotate_left
  · (intro w hSw; (try dsimp only at hSw); go_simp; (try with_reducible rfl))
  rotate_left
  · simp only [Act.put, List.setIfInBounds_toArray, List.set_cons_zero, List.set_cons_succ]
    rfl
  refine take1_ (i := 4) (v := ?_) (a' := ?_) (some 9) #[true, true, true, true, true, false, false, false] rfl rfl (by kernel_rfl) (fun _ _ _ h => h) (Or.inl ⟨by rfl, ?_⟩) hHeld ?_ ?_
  rotate_left
  · (intro w hSw; (try dsimp only at hSw); go_simp; (try with_reducible rfl))
  rotate_left
  · simp only [Act.put, List.setIfInBounds_toArray, List.set_cons_zero, List.set_cons_succ]
    rfl
  refine take1_ (i := 5) (v := ?_) (a' := ?_) (some 10) #[true, true, true, true, true, true, false, false] rfl rfl (by kernel_rfl) (fun _ _ _ h => h) (Or.inl ⟨by rfl, ?_⟩) hHeld ?_ ?_
  rotate_left
  · (intro w hSw; (try dsimp only at hSw); go_simp; (try with_reducible rfl))
  rotate_left
  · simp only [Act.put, List.setIfInBounds_toArray, List.set_cons_zero, List.set_cons_succ]
    rfl
  refine take1_ (i := 6) (v := ?_) (a' := ?_) (some 11) #[true, true, true, true, true, true, true, false] rfl rfl (by kernel_rfl) (fun _ _ _ h => h) (Or.inl ⟨by rfl, ?_⟩) hHeld ?_ ?_
  rotate_left
  · (intro w hSw; (try dsimp only at hSw); go_simp; (try with_reducible rfl))
  rotate_left
  · simp only [Act.put, List.setIfInBounds_toArray, List.set_cons_zero, List.set_cons_succ]
    rfl
  refine loud1_ (i := 7) (some 12) #[true, true, true, true, true, true, true, true] rfl rfl (by kernel_rfl) (fun K hK => ?_)
  go_simp
  (go_at_call 183; refine HC0.out.mono ?_; rintro e w1 ⟨rfl, hcw, hbw⟩; have HW1 := Lib.hid hcw; have HB1 := Lib.hid (HB0.out.drew.trans hbw); have hnx := HB1.out; clear hcw hbw)
  refine hK.out _ _ (by exact hnx) (fun hHeld' => ?_)
  clear hK K hHeld
  have hHeld := hHeld'
  clear hHeld'
  try simp only [Act.put, List.setIfInBounds_toArray, List.set_cons_zero, List.set_cons_succ]
  refine wpAnyH_done (by kernel_rfl) ?_ _
  clear hHeld hnx HC0 HW0
  go_upto_region 1 with fail
  have HC1 := Lib.hid (cw_wide 8 first pb 1 (HW1.out.below (Below.refl _ w1).drew) (by decide) r1 (cell_row ((HB1.out.drew.block pb hpb).trans HC.out) 1) (by (try simp only [List.length_append, wB_len, fB_len, List.map_cons, List.map_nil, List.sum_cons, List.sum_nil]); omega) (Nat.le_trans hbs HB1.out.size))
  unfold CwTo at HC1
  refine wp_region_held_drew (S := (fun w' => Below base w w')) (by kernel_rfl) (by exact HB1.out.drew) (fun hHeld => ?_)
  refine take1_ (i := 0) (v := ?_) (a' := ?_) (some 13) #[true, false, false, false, false, false, false, false] rfl rfl (by kernel_rfl) (fun _ _ _ h => h) (Or.inl ⟨by rfl, ?_⟩) hHeld ?_ ?_
  rotate_left
  · (intro w hSw; (try dsimp only at hSw); go_simp; (try with_reducible rfl))
  rotate_left
  · simp only [Act.put, List.setIfInBounds_toArray, List.set_cons_zero, List.set_cons_succ]
    rfl
  refine take1_ (i := 1) (v := ?_) (a' := ?_) (some 14) #[true, true, false, false, false, false, false, false] rfl rfl (by kernel_rfl) (fun _ _ _ h => h) (Or.inl ⟨by rfl, ?_⟩) hHeld ?_ ?_
  rotate_left
  · (intro w hSw; (try dsimp only at hSw); go_simp; (try with_reducible rfl))
  rotate_left
  · simp only [Act.put, List.setIfInBounds_toArray, List.set_cons_zero, List.set_cons_succ]
    rfl
  refine take1_ (i := 2) (v := ?_) (a' := ?_) (some 15) #[true, true, true, false, false, false, false, false] rfl rfl (by kernel_rfl) (fun _ _ _ h => h) (Or.inl ⟨by rfl, ?_⟩) hHeld ?_ ?_
  rotate_left
  · (intro w hSw; (try dsimp only at hSw); go_simp; (try with_reducible rfl))
  rotate_left
  · simp only [Act.put, List.setIfInBounds_toArray, List.set_cons_zero, List.set_cons_succ]
    rfl
  refine take1_ (i := 3) (v := ?_) (a' := ?_) (some 16) #[true, true, true, true, false, false, false, false] rfl rfl (by kernel_rfl) (fun _ _ _ h => h) (Or.inl ⟨by rfl, ?_⟩) hHeld ?_ ?_
  rotate_left
  · (intro w hSw; (try dsimp only at hSw); go_simp; (try with_reducible rfl))
  rotate_left
  · simp only [Act.put, List.setIfInBounds_toArray, List.set_cons_zero, List.set_cons_succ]
    rfl
  refine take1_ (i := 4) (v := ?_) (a' := ?_) (some 17) #[true, true, true, true, true, false, false, false] rfl rfl (by kernel_rfl) (fun _ _ _ h => h) (Or.inl ⟨by rfl, ?_⟩) hHeld ?_ ?_
  rotate_left
  · (intro w hSw; (try dsimp only at hSw); go_simp; (try with_reducible rfl))
  rotate_left
  · simp only [Act.put, List.setIfInBounds_toArray, List.set_cons_zero, List.set_cons_succ]
    rfl
  refine take1_ (i := 5) (v := ?_) (a' := ?_) (some 18) #[true, true, true, true, true, true, false, false] rfl rfl (by kernel_rfl) (fun _ _ _ h => h) (Or.inl ⟨by rfl, ?_⟩) hHeld ?_ ?_
  rotate_left
  · (intro w hSw; (try dsimp only at hSw); go_simp; (try with_reducible rfl))
  rotate_left
  · simp only [Act.put, List.setIfInBounds_toArray, List.set_cons_zero, List.set_cons_succ]
    rfl
  refine take1_ (i := 6) (v := ?_) (a' := ?_) (some 19) #[true, true, true, true, true, true, true, false] rfl rfl (by kernel_rfl) (fun _ _ _ h => h) (Or.inl ⟨by rfl, ?_⟩) hHeld ?_ ?_
  rotate_left
  · (intro w hSw; (try dsimp only at hSw); go_simp; (try with_reducible rfl))
  rotate_left
  · simp only [Act.put, List.setIfInBounds_toArray, List.set_cons_zero, List.set_cons_succ]
    rfl
  refine loud1_ (i := 7) (some 20) #[true, true, true, true, true, true, true, true] rfl rfl (by kernel_rfl) (fun K hK => ?_)
  go_simp
  (go_at_call 183; refine HC1.out.mono ?_; rintro e w2 ⟨rfl, hcw, hbw⟩; have HW2 := Lib.hid hcw; have HB2 := Lib.hid (HB1.out.drew.trans hbw); have hnx := HB2.out; clear hcw hbw)
  refine hK.out _ _ (by exact hnx) (fun hHeld' => ?_)
  clear hK K hHeld
  have hHeld := hHeld'
  clear hHeld'
  try simp only [Act.put, List.setIfInBounds_toArray, List.set_cons_zero, List.set_cons_succ]
  refine wpAnyH_done (by kernel_rfl) ?_ _
  clear hHeld hnx HC1 HW1
  have HF2 := Lib.hid (pw_flag commit pb 2 _ _ HW2.out ((HB2.out.block pb hpb).trans HC.out) rfl (by (try simp only [List.length_append, wB_len, fB_len, List.map_cons, List.map_nil, List.sum_cons, List.sum_nil]); omega) (Nat.le_trans hbs HB2.out.size) hpb)
  unfold CwTo wV at HF2
  have cs2 := cell_row ((HB2.out.block pb hpb).trans HC.out) 5
  go_upto_region 3 with (go_at_call 129; go_must (refine HF2.out.mono ?_; rintro e w3 ⟨rfl, hcw, hbw⟩; have HW3 := Lib.hid hcw; have HB3 := Lib.hid (HB2.out.trans hbw); clear hcw hbw))
  clear HF2 HW2 cs2
  have cs3 : w3.cell? ⟨pb, 5, none⟩ = some (.slice A ents.length c) := cell_row ((HB3.out.block pb hpb).trans HC.out) 5
  go_upto_region 4 with fail
  have hal : Below w3.heap.size w3 (w3.alloc (.cells #[.int .i64 (ents.length : Int)] 3 (0, 0))) := (Below.refl _ _).alloc (Nat.le_refl _) _
  have hn := heap_alloc_last w3 (.cells #[.int .i64 (ents.length : Int)] 3 (0, 0))
  have hsz : (w3.alloc (.cells #[.int .i64 (ents.length : Int)] 3 (0, 0))).heap.size = w3.heap.size + 1 := by simp
  have hbl := HB3.out.size
  revert hal hn hsz
  generalize w3.alloc (.cells #[.int .i64 (ents.length : Int)] 3 (0, 0)) = w3n
  intro hal hn hsz
  have HC3 := Lib.hid (cw_int 1 (ents.length : Int) w3.heap.size 0 (HW3.out.below hal) (by decide) (by omega) (cell_row hn 0) (by (try simp only [List.length_append, wB_len, fB_len, List.map_cons, List.map_nil, List.sum_cons, List.sum_nil]); omega) (by omega))
  unfold CwTo at HC3
  have HAL := Lib.hid hal
  clear hal hn HW3 cs3
  go_upto_region 5 with (go_at_call 181; go_must (refine HC3.out.mono ?_; rintro e w4 ⟨rfl, hcw, hbw⟩; have HW4 := Lib.hid hcw; have HB4 := Lib.hid (HB3.out.trans ((HAL.out.mono (by omega)).trans hbw)); clear hcw hbw))
  clear HC3
  have HC4 := Lib.hid (cw_int 2 next pb 3 (HW4.out.below (Below.refl _ w4).drew) (by decide) r3 (cell_row ((HB4.out.drew.block pb hpb).trans HC.out) 3) (by (try simp only [List.length_append, wB_len, fB_len, List.map_cons, List.map_nil, List.sum_cons, List.sum_nil]); omega) (Nat.le_trans hbs HB4.out.size))
  unfold CwTo at HC4
  refine wp_region_held_drew (S := (fun w' => Below base w w')) (by kernel_rfl) (by exact HB4.out.drew) (fun hHeld => ?_)
  refine take1_ (i := 0) (v := ?_) (a' := ?_) (some 33) #[true, false, false, false, false, false, false, false] rfl rfl (by kernel_rfl) (fun _ _ _ h => h) (Or.inl ⟨by rfl, ?_⟩) hHeld ?_ ?_
  rotate_left
  · (intro w hSw; (try dsimp only at hSw); go_simp; (try with_reducible rfl))
  rotate_left
  · simp only [Act.put, List.setIfInBounds_toArray, List.set_cons_zero, List.set_cons_succ]
    rfl
  refine take1_ (i := 1) (v := ?_) (a' := ?_) (some 34) #[true, true, false, false, false, false, false, false] rfl rfl (by kernel_rfl) (fun _ _ _ h => h) (Or.inl ⟨by rfl, ?_⟩) hHeld ?_ ?_
  rotate_left
  · (intro w hSw; (try dsimp only at hSw); go_simp; (try with_reducible rfl))
  rotate_left
  · simp only [Act.put, List.setIfInBounds_toArray, List.set_cons_zero, List.set_cons_succ]
    rfl
  refine take1_ (i := 2) (v := ?_) (a' := ?_) (some 35) #[true, true, true, false, false, false, false, false] rfl rfl (by kernel_rfl) (fun _ _ _ h => h) (Or.inl ⟨by rfl, ?_⟩) hHeld ?_ ?_
  rotate_left
  · (intro w hSw; (try dsimp only at hSw); go_simp; (try with_reducible rfl))
  rotate_left
  · simp only [Act.put, List.setIfInBounds_toArray, List.set_cons_zero, List.set_cons_succ]
    rfl
  refine take1_ (i := 3) (v := ?_) (a' := ?_) (some 36) #[true, true, true, true, false, false, false, false] rfl rfl (by kernel_rfl) (fun _ _ _ h => h) (Or.inl ⟨by rfl, ?_⟩) hHeld ?_ ?_
  rotate_left
  · (intro w hSw; (try dsimp only at hSw); go_simp; (try with_reducible rfl))
  rotate_left
  · simp only [Act.put, List.setIfInBounds_toArray, List.set_cons_zero, List.set_cons_succ]
    rfl
  refine take1_ (i := 4) (v := ?_) (a' := ?_) (some 37) #[true, true, true, true, true, false, false, false] rfl rfl (by kernel_rfl) (fun _ _ _ h => h) (Or.inl ⟨by rfl, ?_⟩) hHeld ?_ ?_
  rotate_left
  · (intro w hSw; (try dsimp only at hSw); go_simp; (try with_reducible rfl))
  rotate_left
  · simp only [Act.put, List.setIfInBounds_toArray, List.set_cons_zero, List.set_cons_succ]
    rfl
  refine take1_ (i := 5) (v := ?_) (a' := ?_) (some 38) #[true, true, true, true, true, true, false, false] rfl rfl (by kernel_rfl) (fun _ _ _ h => h) (Or.inl ⟨by rfl, ?_⟩) hHeld ?_ ?_
  rotate_left
  · (intro w hSw; (try dsimp only at hSw); go_simp; (try with_reducible rfl))
  rotate_left
  · simp only [Act.put, List.setIfInBounds_toArray, List.set_cons_zero, List.set_cons_succ]
    rfl
  refine take1_ (i := 6) (v := ?_) (a' := ?_) (some 39) #[true, true, true, true, true, true, true, false] rfl rfl (by kernel_rfl) (fun _ _ _ h => h) (Or.inl ⟨by rfl, ?_⟩) hHeld ?_ ?_
  rotate_left
  · (intro w hSw; (try dsimp only at hSw); go_simp; (try with_reducible rfl))
  rotate_left
  · simp only [Act.put, List.setIfInBounds_toArray, List.set_cons_zero, List.set_cons_succ]
    rfl
  refine loud1_ (i := 7) (some 40) #[true, true, true, true, true, true, true, true] rfl rfl (by kernel_rfl) (fun K hK => ?_)
  go_simp
  (go_at_call 181; refine HC4.out.mono ?_; rintro e w5 ⟨rfl, hcw, hbw⟩; have HW5 := Lib.hid hcw; have HB5 := Lib.hid (HB4.out.drew.trans hbw); have hnx := HB5.out; clear hcw hbw)
  refine hK.out _ _ (by exact hnx) (fun hHeld' => ?_)
  clear hK K hHeld
  have hHeld := hHeld'
  clear hHeld'
  try simp only [Act.put, List.setIfInBounds_toArray, List.set_cons_zero, List.set_cons_succ]
  refine wpAnyH_done (by kernel_rfl) ?_ _
  clear hHeld hnx HC4 HW4
  go_upto_region 6 with fail
  have HC5 := Lib.hid (cw_word 4 time pb 4 (HW5.out.below (Below.refl _ w5).drew) (by decide) r4 (cell_row ((HB5.out.drew.block pb hpb).trans HC.out) 4) (by (try simp only [List.length_append, wB_len, fB_len, List.map_cons, List.map_nil, List.sum_cons, List.sum_nil]); omega) (Nat.le_trans hbs HB5.out.size))
  unfold CwTo at HC5
  refine wp_region_held_drew (S := (fun w' => Below base w w')) (by kernel_rfl) (by exact HB5.out.drew) (fun hHeld => ?_)
  refine take1_ (i := 0) (v := ?_) (a' := ?_) (some 41) #[true, false, false, false, false, false, false, false] rfl rfl (by kernel_rfl) (fun _ _ _ h => h) (Or.inl ⟨by rfl, ?_⟩) hHeld ?_ ?_
  rotate_left
  · (intro w hSw; (try dsimp only at hSw); go_simp; (try with_reducible rfl))
  rotate_left
  · simp only [Act.put, List.setIfInBounds_toArray, List.set_cons_zero, List.set_cons_succ]
    rfl
  refine take1_ (i := 1) (v := ?_) (a' := ?_) (some 42) #[true, true, false, false, false, false, false, false] rfl rfl (by kernel_rfl) (fun _ _ _ h => h) (Or.inl ⟨by rfl, ?_⟩) hHeld ?_ ?_
  rotate_left
  · (intro w hSw; (try dsimp only at hSw); go_simp; (try with_reducible rfl))
  rotate_left
  · simp only [Act.put, List.setIfInBounds_toArray, List.set_cons_zero, List.set_cons_succ]
    rfl
  refine take1_ (i := 2) (v := ?_) (a' := ?_) (some 43) #[true, true, true, false, false, false, false, false] rfl rfl (by kernel_rfl) (fun _ _ _ h => h) (Or.inl ⟨by rfl, ?_⟩) hHeld ?_ ?_
  rotate_left
  · (intro w hSw; (try dsimp only at hSw); go_simp; (try with_reducible rfl))
  rotate_left
  · simp only [Act.put, List.setIfInBounds_toArray, List.set_cons_zero, List.set_cons_succ]
    rfl
  refine take1_ (i := 3) (v := ?_) (a' := ?_) (some 44) #[true, true, true, true, false, false, false, false] rfl rfl (by kernel_rfl) (fun _ _ _ h => h) (Or.inl ⟨by rfl, ?_⟩) hHeld ?_ ?_
  rotate_left
  · (intro w hSw; (try dsimp only at hSw); go_simp; (try with_reducible rfl))
  rotate_left
  · simp only [Act.put, List.setIfInBounds_toArray, List.set_cons_zero, List.set_cons_succ]
    rfl
  refine take1_ (i := 4) (v := ?_) (a' := ?_) (some 45) #[true, true, true, true, true, false, false, false] rfl rfl (by kernel_rfl) (fun _ _ _ h => h) (Or.inl ⟨by rfl, ?_⟩) hHeld ?_ ?_
  rotate_left
  · (intro w hSw; (try dsimp only at hSw); go_simp; (try with_reducible rfl))
  rotate_left
  · simp only [Act.put, List.setIfInBounds_toArray, List.set_cons_zero, List.set_cons_succ]
    rfl
  refine take1_ (i := 5) (v := ?_) (a' := ?_) (some 46) #[true, true, true, true, true, true, false, false] rfl rfl (by kernel_rfl) (fun _ _ _ h => h) (Or.inl ⟨by rfl, ?_⟩) hHeld ?_ ?_
  rotate_left
  · (intro w hSw; (try dsimp only at hSw); go_simp; (try with_reducible rfl))
  rotate_left
  · simp only [Act.put, List.setIfInBounds_toArray, List.set_cons_zero, List.set_cons_succ]
    rfl
  refine take1_ (i := 6) (v := ?_) (a' := ?_) (some 47) #[true, true, true, true, true, true, true, false] rfl rfl (by kernel_rfl) (fun _ _ _ h => h) (Or.inl ⟨by rfl, ?_⟩) hHeld ?_ ?_
  rotate_left
  · (intro w hSw; (try dsimp only at hSw); go_simp; (try with_reducible rfl))
  rotate_left
  · simp only [Act.put, List.setIfInBounds_toArray, List.set_cons_zero, List.set_cons_succ]
    rfl
  refine loud1_ (i := 7) (some 48) #[true, true, true, true, true, true, true, true] rfl rfl (by kernel_rfl) (fun K hK => ?_)
  go_simp
  (go_at_call 184; refine HC5.out.mono ?_; rintro e w6 ⟨rfl, hcw, hbw⟩; have HW6 := Lib.hid hcw; have HB6 := Lib.hid (HB5.out.drew.trans hbw); have hnx := HB6.out; clear hcw hbw)
  refine hK.out _ _ (by exact hnx) (fun hHeld' => ?_)
  clear hK K hHeld
  have hHeld := hHeld'
  clear hHeld'
  try simp only [Act.put, List.setIfInBounds_toArray, List.set_cons_zero, List.set_cons_succ]
  refine wpAnyH_done (by kernel_rfl) ?_ _
  clear hHeld hnx HC5 HW5
  have HL6 := Lib.hid (lw_entry ents A c pb 5 HW6.out (cell_row ((HB6.out.block pb hpb).trans HC.out) 5) (hRX w6 HB6.out) HA.out hpb HE.out (by (try simp only [List.length_append, wB_len, fB_len, List.map_cons, List.map_nil, List.sum_cons, List.sum_nil]); omega) rL (Nat.le_trans hbs HB6.out.size))
  unfold CwTo wV at HL6
  go_wp2_with (go_at_call 130; go_must (refine HL6.out.mono ?_; rintro e w7 ⟨rfl, hcw, hbw⟩; have HW7 := Lib.hid hcw; have HB7 := Lib.hid (HB6.out.trans hbw); clear hcw hbw))
  go_end0
  have hE : l ++ fB (sumL ⟨seq, first, commit, next, time, ents⟩) = ((((((l ++ wB 8 seq) ++ wB 8 first) ++ fB [(1, flagN commit)]) ++ wB 1 (ents.length : Int).toNat) ++ wB 2 next.toNat) ++ wB 4 time) ++ fB (entryAll ents) := by simp [sumL, Smy.head, fB, List.append_assoc]
  have hF : (bad || fBad (sumL ⟨seq, first, commit, next, time, ents⟩)) = (((((((((bad || !fitB 8 seq) || !fitB 8 first) || fBad [(1, flagN commit)]) || decide ((ents.length : Int) < 0)) || !fitB 1 (ents.length : Int).toNat) || decide (next < 0)) || !fitB 2 next.toNat) || !fitB 4 time) || fBad (entryAll ents)) := by
    unfold sumL; rw [fBad_append]; simp [Smy.head, fBad, Bool.or_assoc, nat_neg]
  rw [hE, hF]
  exact ⟨rfl, HW7.out, HB7.out⟩
def rsum (l : List UInt8) (J : Nat) : Smy := ⟨rN l 0 8, rN l 8 8, decide (rN l 16 1 = 1), (rN l 18 2 : Int), rN l 20 4, entrys l 24 J⟩
/-- What a reading leaves. -/
structure LrSum (w : World) (g : Nat) (v : Value) (l : List UInt8) (pb : Nat) (v' : Value) (J : Nat) (w' : World) : Prop where
  form : CrAt w' g v l (24 + J * 9) (decide (l.length < 24 + J * 9))
  cell : w'.heap[pb]? = some (.cells (sumF (rN l 0 8) (rN l 8 8) (decide (rN l 16 1 = 1)) (rN l 18 2 : Int) (rN l 20 4) v') 65 (0, 0))
  own : w'.ownsRow w.heap.size 155 4 v' J (rowsOf Ent5.cells (entrys l 24 J))
  keep : Keep (fun b => b = g ∨ b = pb) w w'
set_option maxRecDepth 10000 in
set_option maxHeartbeats 8000000 in
theorem pr_summary {w : World} {g : Nat} {v : Value} {l : List UInt8} (pb : Nat) (h : CrAt w g v l 0 false) (hl : l.length ≤ 255) (hb : w.heap[pb]? = some (.cells (sumF 0 0 false 0 0 (.slice none 0 0)) 65 (0, 0))) (hpg : pb ≠ g) (hv : Apart (· = pb) v l) :
    Calls Try.prog 74 #[rV g, .pointer (some ⟨pb, 0, none⟩)] w fun e w' => ∃ v' J, e = .returned (.tuple #[]) ∧ LrSum w g v l pb v' J w' ∧ l.length ≤ 24 + J * 9 ∧ (J = 0 ∨ 24 + (J - 1) * 9 < l.length) := by
  have HC0 := Lib.hid (CrPass.mk h hb (Keep.refl _ w))
  clear h hb
  have na_wide := fun W => na_r ⟨g, 0, none⟩ W "drumlin/codec.wide" (by simp)
  have mt_wide := fun W => mr_wide ⟨g, 0, none⟩ W
  have na_int := fun W => na_r ⟨g, 0, none⟩ W "drumlin/codec.int" (by simp)
  have mt_int := fun W => mr_int ⟨g, 0, none⟩ W
  have na_word := fun W => na_r ⟨g, 0, none⟩ W "drumlin/codec.word" (by simp)
  have mt_word := fun W => mr_word ⟨g, 0, none⟩ W
  have hl2 : l.length ≤ 1000 := by omega
  unfold rV
  go_enter Try.func74, Try.ntmps74
  go_upto_region 0 with fail
  have HD := Lib.hid HC0.out.drew
  have HN := Lib.hid (cr_wide 8 pb 0 _ 65 0 HD.out.form (by decide) (by omega) hl2 HD.out.cell (by simp [sumF]) hpg hv)
  refine wp_region_held_drew (S := (fun w' => True)) (by kernel_rfl) (by trivial) (fun hHeld => ?_)
  refine take1_ (i := 0) (v := ?_) (a' := ?_) (some 5) #[true, false, false, false, false, false, false, false] rfl rfl (by kernel_rfl) (fun _ _ _ h => h) (Or.inl ⟨by rfl, ?_⟩) hHeld ?_ ?_
  rotate_left
  · (intro w hSw; (try dsimp only at hSw); go_simp; (try with_reducible rfl))
  rotate_left
  · simp only [Act.put, List.setIfInBounds_toArray, List.set_cons_zero, List.set_cons_succ]
    rfl
  refine take1_ (i := 1) (v := ?_) (a' := ?_) (some 6) #[true, true, false, false, false, false, false, false] rfl rfl (by kernel_rfl) (fun _ _ _ h => h) (Or.inl ⟨by rfl, ?_⟩) hHeld ?_ ?_
  rotate_left
  · (intro w hSw; (try dsimp only at hSw); go_simp; (try with_reducible rfl))
  rotate_left
  · simp only [Act.put, List.setIfInBounds_toArray, List.set_cons_zero, List.set_cons_succ]
    rfl
  refine take1_ (i := 2) (v := ?_) (a' := ?_) (some 7) #[true, true, true, false, false, false, false, false] rfl rfl (by kernel_rfl) (fun _ _ _ h => h) (Or.inl ⟨by rfl, ?_⟩) hHeld ?_ ?_
  rotate_left
  · (intro w hSw; (try dsimp only at hSw); go_simp; (try with_reducible rfl))
  rotate_left
  · simp only [Act.put, List.setIfInBounds_toArray, List.set_cons_zero, List.set_cons_succ]
    rfl
  refine take1_ (i := 3) (v := ?_) (a' := ?_) (some 8) #[true, true, true, true, false, false, false, false] rfl rfl (by kernel_rfl) (fun _ _ _ h => h) (Or.inl ⟨by rfl, ?_⟩) hHeld ?_ ?_
  rotate_left
  · (intro w hSw; (try dsimp only at hSw); go_simp; (try with_reducible rfl))
  rotate_left
  · simp only [Act.put, List.setIfInBounds_toArray, List.set_cons_zero, List.set_cons_succ]
    rfl
  refine take1_ (i := 4) (v := ?_) (a' := ?_) (some 9) #[true, true, true, true, true, false, false, false] rfl rfl (by kernel_rfl) (fun _ _ _ h => h) (Or.inl ⟨by rfl, ?_⟩) hHeld ?_ ?_
  rotate_left
  · (intro w hSw; (try dsimp only at hSw); go_simp; (try with_reducible rfl))
  rotate_left
  · simp only [Act.put, List.setIfInBounds_toArray, List.set_cons_zero, List.set_cons_succ]
    rfl
  refine take1_ (i := 5) (v := ?_) (a' := ?_) (some 10) #[true, true, true, true, true, true, false, false] rfl rfl (by kernel_rfl) (fun _ _ _ h => h) (Or.inl ⟨by rfl, ?_⟩) hHeld ?_ ?_
  rotate_left
  · (intro w hSw; (try dsimp only at hSw); go_simp; (try with_reducible rfl))
  rotate_left
  · simp only [Act.put, List.setIfInBounds_toArray, List.set_cons_zero, List.set_cons_succ]
    rfl
  refine take1_ (i := 6) (v := ?_) (a' := ?_) (some 11) #[true, true, true, true, true, true, true, false] rfl rfl (by kernel_rfl) (fun _ _ _ h => h) (Or.inl ⟨by rfl, ?_⟩) hHeld ?_ ?_
  rotate_left
  · (intro w hSw; (try dsimp only at hSw); go_simp; (try with_reducible rfl))
  rotate_left
  · simp only [Act.put, List.setIfInBounds_toArray, List.set_cons_zero, List.set_cons_succ]
    rfl
  refine loud1_ (i := 7) (some 12) #[true, true, true, true, true, true, true, true] rfl rfl (by kernel_rfl) (fun K hK => ?_)
  go_simp
  (go_at_call 187; refine HN.out.mono ?_; rintro e w1 ⟨rfl, hct⟩; have HCn := Lib.hid (HD.out.next hct); clear hct)
  refine hK.out _ _ (by trivial) (fun hHeld' => ?_)
  clear hK K hHeld
  have hHeld := hHeld'
  clear hHeld'
  try simp only [Act.put, List.setIfInBounds_toArray, List.set_cons_zero, List.set_cons_succ]
  refine wpAnyH_done (by kernel_rfl) ?_ _
  clear hHeld HN HD HC0
  have HC1 : Hid (CrPass w g v l 8 (decide (l.length < 8)) pb (sumF (rN l 0 8) 0 false 0 0 (.slice none 0 0)) 65 w1) := Lib.hid (by
    have := HCn.out
    rw [show (false || !rOk l 0 8) = decide (l.length < 0 + 8) from bad_next l 0 8 (by decide)] at this
    simpa [sumF] using this)
  clear HCn
  go_upto_region 1 with fail
  have HD := Lib.hid HC1.out.drew
  have HN := Lib.hid (cr_wide 8 pb 1 _ 65 0 HD.out.form (by decide) (by omega) hl2 HD.out.cell (by simp [sumF]) hpg hv)
  refine wp_region_held_drew (S := (fun w' => True)) (by kernel_rfl) (by trivial) (fun hHeld => ?_)
  refine take1_ (i := 0) (v := ?_) (a' := ?_) (some 13) #[true, false, false, false, false, false, false, false] rfl rfl (by kernel_rfl) (fun _ _ _ h => h) (Or.inl ⟨by rfl, ?_⟩) hHeld ?_ ?_
  rotate_left
  · (intro w hSw; (try dsimp only at hSw); go_simp; (try with_reducible rfl))
  rotate_left
  · simp only [Act.put, List.setIfInBounds_toArray, List.set_cons_zero, List.set_cons_succ]
    rfl
  refine take1_ (i := 1) (v := ?_) (a' := ?_) (some 14) #[true, true, false, false, false, false, false, false] rfl rfl (by kernel_rfl) (fun _ _ _ h => h) (Or.inl ⟨by rfl, ?_⟩) hHeld ?_ ?_
  rotate_left
  · (intro w hSw; (try dsimp only at hSw); go_simp; (try with_reducible rfl))
  rotate_left
  · simp only [Act.put, List.setIfInBounds_toArray, List.set_cons_zero, List.set_cons_succ]
    rfl
  refine take1_ (i := 2) (v := ?_) (a' := ?_) (some 15) #[true, true, true, false, false, false, false, false] rfl rfl (by kernel_rfl) (fun _ _ _ h => h) (Or.inl ⟨by rfl, ?_⟩) hHeld ?_ ?_
  rotate_left
  · (intro w hSw; (try dsimp only at hSw); go_simp; (try with_reducible rfl))
  rotate_left
  · simp only [Act.put, List.setIfInBounds_toArray, List.set_cons_zero, List.set_cons_succ]
    rfl
  refine take1_ (i := 3) (v := ?_) (a' := ?_) (some 16) #[true, true, true, true, false, false, false, false] rfl rfl (by kernel_rfl) (fun _ _ _ h => h) (Or.inl ⟨by rfl, ?_⟩) hHeld ?_ ?_
  rotate_left
  · (intro w hSw; (try dsimp only at hSw); go_simp; (try with_reducible rfl))
  rotate_left
  · simp only [Act.put, List.setIfInBounds_toArray, List.set_cons_zero, List.set_cons_succ]
    rfl
  refine take1_ (i := 4) (v := ?_) (a' := ?_) (some 17) #[true, true, true, true, true, false, false, false] rfl rfl (by kernel_rfl) (fun _ _ _ h => h) (Or.inl ⟨by rfl, ?_⟩) hHeld ?_ ?_
  rotate_left
  · (intro w hSw; (try dsimp only at hSw); go_simp; (try with_reducible rfl))
  rotate_left
  · simp only [Act.put, List.setIfInBounds_toArray, List.set_cons_zero, List.set_cons_succ]
    rfl
  refine take1_ (i := 5) (v := ?_) (a' := ?_) (some 18) #[true, true, true, true, true, true, false, false] rfl rfl (by kernel_rfl) (fun _ _ _ h => h) (Or.inl ⟨by rfl, ?_⟩) hHeld ?_ ?_
  rotate_left
  · (intro w hSw; (try dsimp only at hSw); go_simp; (try with_reducible rfl))
  rotate_left
  · simp only [Act.put, List.setIfInBounds_toArray, List.set_cons_zero, List.set_cons_succ]
    rfl
  refine take1_ (i := 6) (v := ?_) (a' := ?_) (some 19) #[true, true, true, true, true, true, true, false] rfl rfl (by kernel_rfl) (fun _ _ _ h => h) (Or.inl ⟨by rfl, ?_⟩) hHeld ?_ ?_
  rotate_left
  · (intro w hSw; (try dsimp only at hSw); go_simp; (try with_reducible rfl))
  rotate_left
  · simp only [Act.put, List.setIfInBounds_toArray, List.set_cons_zero, List.set_cons_succ]
    rfl
  refine loud1_ (i := 7) (some 20) #[true, true, true, true, true, true, true, true] rfl rfl (by kernel_rfl) (fun K hK => ?_)
  go_simp
  (go_at_call 187; refine HN.out.mono ?_; rintro e w2 ⟨rfl, hct⟩; have HCn := Lib.hid (HD.out.next hct); clear hct)
  refine hK.out _ _ (by trivial) (fun hHeld' => ?_)
  clear hK K hHeld
  have hHeld := hHeld'
  clear hHeld'
  try simp only [Act.put, List.setIfInBounds_toArray, List.set_cons_zero, List.set_cons_succ]
  refine wpAnyH_done (by kernel_rfl) ?_ _
  clear hHeld HN HD HC1
  have HC2 : Hid (CrPass w g v l 16 (decide (l.length < 16)) pb (sumF (rN l 0 8) (rN l 8 8) false 0 0 (.slice none 0 0)) 65 w2) := Lib.hid (by
    have := HCn.out
    rw [show (decide (l.length < 8) || !rOk l 8 8) = decide (l.length < 8 + 8) from bad_next l 8 8 (by decide)] at this
    simpa [sumF] using this)
  clear HCn
  have HF := Lib.hid (pr_flag pb 2 _ 65 HC2.out.form (by omega) hl2 HC2.out.cell (by simp [sumF]) hpg hv)
  unfold rV at HF
  go_upto_region 3 with (go_at_call 129; go_must (refine HF.out.mono ?_; rintro e w3 ⟨rfl, hct⟩; have HCn := Lib.hid (HC2.out.next hct); clear hct))
  have HC3 : Hid (CrPass w g v l 17 (decide (l.length < 17)) pb (sumF (rN l 0 8) (rN l 8 8) (decide (rN l 16 1 = 1)) 0 0 (.slice none 0 0)) 65 w3) := Lib.hid (by
    have := HCn.out
    rw [show (decide (l.length < 16) || !rOk l 16 1) = decide (l.length < 16 + 1) from bad_next l 16 1 (by decide)] at this
    simpa [sumF] using this)
  clear HF HCn HC2
  have cs3 : w3.cell? ⟨pb, 5, none⟩ = some (.slice none 0 0) := cell_row HC3.out.cell 5
  go_upto_region 4 with fail
  have hal : Below w3.heap.size w3 (w3.alloc (.cells #[.int .i64 0] 3 (0, 0))) := (Below.refl _ _).alloc (Nat.le_refl _) _
  have hn := heap_alloc_last w3 (.cells #[.int .i64 0] 3 (0, 0))
  have hgl : g < w3.heap.size := (Array.getElem?_eq_some_iff.1 HC3.out.form.box).1
  have hpl : pb < w3.heap.size := (Array.getElem?_eq_some_iff.1 HC3.out.cell).1
  revert hal hn
  generalize w3.alloc (.cells #[.int .i64 0] 3 (0, 0)) = w3n
  intro hal hn
  have hn2 : w3n.heap[w3.heap.size]? = some (.cells #[.int .i64 0] 3 (0, 0)) := hn
  have hw0 : w.heap.size ≤ w3.heap.size := HC3.out.keep.size
  have HN := Lib.hid (cr_int 1 w3.heap.size 0 #[.int .i64 0] 3 0 (HC3.out.form.below hal) (by decide) (by omega) hl2 hn2 rfl (by omega) (byt_apart HC3.out.form.byt))
  have HK3 := Lib.hid (HC3.out.keep.trans (Keep.of_below hal))
  have HP3 := Lib.hid (old_heap HC3.out.cell hal)
  clear hal hn hn2 cs3 HC3
  go_upto_region 5 with (go_at_call 185; go_must (refine HN.out.mono ?_; rintro e w4 ⟨rfl, hct⟩; have HCT := Lib.hid hct; clear hct))
  have HC4 : Hid (CrPass w g v l 18 (decide (l.length < 18)) pb (sumF (rN l 0 8) (rN l 8 8) (decide (rN l 16 1 = 1)) 0 0 (.slice none 0 0)) 65 w4) := Lib.hid (by
    have h1 := HCT.out.form
    rw [show (decide (l.length < 17) || !rOk l 17 1) = decide (l.length < 17 + 1) from bad_next l 17 1 (by decide)] at h1
    exact ⟨h1, HCT.out.keep.heap HP3.out (by omega), HK3.out.trans' HCT.out.keep (fun i hi hf => by rcases hf with e | e; exact .inl e; omega)⟩)
  clear HN HCT HK3 HP3
  have HD := Lib.hid HC4.out.drew
  have HN := Lib.hid (cr_int 2 pb 3 _ 65 0 HD.out.form (by decide) (by omega) hl2 HD.out.cell (by simp [sumF]) hpg hv)
  refine wp_region_held_drew (S := (fun w' => True)) (by kernel_rfl) (by trivial) (fun hHeld => ?_)
  refine take1_ (i := 0) (v := ?_) (a' := ?_) (some 33) #[true, false, false, false, false, false, false, false] rfl rfl (by kernel_rfl) (fun _ _ _ h => h) (Or.inl ⟨by rfl, ?_⟩) hHeld ?_ ?_
  rotate_left
  · (intro w hSw; (try dsimp only at hSw); go_simp; (try with_reducible rfl))
  rotate_left
  · simp only [Act.put, List.setIfInBounds_toArray, List.set_cons_zero, List.set_cons_succ]
    rfl
  refine take1_ (i := 1) (v := ?_) (a' := ?_) (some 34) #[true, true, false, false, false, false, false, false] rfl rfl (by kernel_rfl) (fun _ _ _ h => h) (Or.inl ⟨by rfl, ?_⟩) hHeld ?_ ?_
  rotate_left
  · (intro w hSw; (try dsimp only at hSw); go_simp; (try with_reducible rfl))
  rotate_left
  · simp only [Act.put, List.setIfInBounds_toArray, List.set_cons_zero, List.set_cons_succ]
    rfl
  refine take1_ (i := 2) (v := ?_) (a' := ?_) (some 35) #[true, true, true, false, false, false, false, false] rfl rfl (by kernel_rfl) (fun _ _ _ h => h) (Or.inl ⟨by rfl, ?_⟩) hHeld ?_ ?_
  rotate_left
  · (intro w hSw; (try dsimp only at hSw); go_simp; (try with_reducible rfl))
  rotate_left
  · simp only [Act.put, List.setIfInBounds_toArray, List.set_cons_zero, List.set_cons_succ]
    rfl
  refine take1_ (i := 3) (v := ?_) (a' := ?_) (some 36) #[true, true, true, true, false, false, false, false] rfl rfl (by kernel_rfl) (fun _ _ _ h => h) (Or.inl ⟨by rfl, ?_⟩) hHeld ?_ ?_
  rotate_left
  · (intro w hSw; (try dsimp only at hSw); go_simp; (try with_reducible rfl))
  rotate_left
  · simp only [Act.put, List.setIfInBounds_toArray, List.set_cons_zero, List.set_cons_succ]
    rfl
  refine take1_ (i := 4) (v := ?_) (a' := ?_) (some 37) #[true, true, true, true, true, false, false, false] rfl rfl (by kernel_rfl) (fun _ _ _ h => h) (Or.inl ⟨by rfl, ?_⟩) hHeld ?_ ?_
  rotate_left
  · (intro w hSw; (try dsimp only at hSw); go_simp; (try with_reducible rfl))
  rotate_left
  · simp only [Act.put, List.setIfInBounds_toArray, List.set_cons_zero, List.set_cons_succ]
    rfl
  refine take1_ (i := 5) (v := ?_) (a' := ?_) (some 38) #[true, true, true, true, true, true, false, false] rfl rfl (by kernel_rfl) (fun _ _ _ h => h) (Or.inl ⟨by rfl, ?_⟩) hHeld ?_ ?_
  rotate_left
  · (intro w hSw; (try dsimp only at hSw); go_simp; (try with_reducible rfl))
  rotate_left
  · simp only [Act.put, List.setIfInBounds_toArray, List.set_cons_zero, List.set_cons_succ]
    rfl
  refine take1_ (i := 6) (v := ?_) (a' := ?_) (some 39) #[true, true, true, true, true, true, true, false] rfl rfl (by kernel_rfl) (fun _ _ _ h => h) (Or.inl ⟨by rfl, ?_⟩) hHeld ?_ ?_
  rotate_left
  · (intro w hSw; (try dsimp only at hSw); go_simp; (try with_reducible rfl))
  rotate_left
  · simp only [Act.put, List.setIfInBounds_toArray, List.set_cons_zero, List.set_cons_succ]
    rfl
  refine loud1_ (i := 7) (some 40) #[true, true, true, true, true, true, true, true] rfl rfl (by kernel_rfl) (fun K hK => ?_)
  go_simp
  (go_at_call 185; refine HN.out.mono ?_; rintro e w5 ⟨rfl, hct⟩; have HCn := Lib.hid (HD.out.next hct); clear hct)
  refine hK.out _ _ (by trivial) (fun hHeld' => ?_)
  clear hK K hHeld
  have hHeld := hHeld'
  clear hHeld'
  try simp only [Act.put, List.setIfInBounds_toArray, List.set_cons_zero, List.set_cons_succ]
  refine wpAnyH_done (by kernel_rfl) ?_ _
  clear hHeld HN HD HC4
  have HC5 : Hid (CrPass w g v l 20 (decide (l.length < 20)) pb (sumF (rN l 0 8) (rN l 8 8) (decide (rN l 16 1 = 1)) (rN l 18 2 : Int) 0 (.slice none 0 0)) 65 w5) := Lib.hid (by
    have := HCn.out
    rw [show (decide (l.length < 18) || !rOk l 18 2) = decide (l.length < 18 + 2) from bad_next l 18 2 (by decide)] at this
    simpa [sumF] using this)
  clear HCn
  go_upto_region 6 with fail
  have HD := Lib.hid HC5.out.drew
  have HN := Lib.hid (cr_word 4 pb 4 _ 65 0 HD.out.form (by decide) (by omega) hl2 HD.out.cell (by simp [sumF]) hpg hv)
  refine wp_region_held_drew (S := (fun w' => True)) (by kernel_rfl) (by trivial) (fun hHeld => ?_)
  refine take1_ (i := 0) (v := ?_) (a' := ?_) (some 41) #[true, false, false, false, false, false, false, false] rfl rfl (by kernel_rfl) (fun _ _ _ h => h) (Or.inl ⟨by rfl, ?_⟩) hHeld ?_ ?_
  rotate_left
  · (intro w hSw; (try dsimp only at hSw); go_simp; (try with_reducible rfl))
  rotate_left
  · simp only [Act.put, List.setIfInBounds_toArray, List.set_cons_zero, List.set_cons_succ]
    rfl
  refine take1_ (i := 1) (v := ?_) (a' := ?_) (some 42) #[true, true, false, false, false, false, false, false] rfl rfl (by kernel_rfl) (fun _ _ _ h => h) (Or.inl ⟨by rfl, ?_⟩) hHeld ?_ ?_
  rotate_left
  · (intro w hSw; (try dsimp only at hSw); go_simp; (try with_reducible rfl))
  rotate_left
  · simp only [Act.put, List.setIfInBounds_toArray, List.set_cons_zero, List.set_cons_succ]
    rfl
  refine take1_ (i := 2) (v := ?_) (a' := ?_) (some 43) #[true, true, true, false, false, false, false, false] rfl rfl (by kernel_rfl) (fun _ _ _ h => h) (Or.inl ⟨by rfl, ?_⟩) hHeld ?_ ?_
  rotate_left
  · (intro w hSw; (try dsimp only at hSw); go_simp; (try with_reducible rfl))
  rotate_left
  · simp only [Act.put, List.setIfInBounds_toArray, List.set_cons_zero, List.set_cons_succ]
    rfl
  refine take1_ (i := 3) (v := ?_) (a' := ?_) (some 44) #[true, true, true, true, false, false, false, false] rfl rfl (by kernel_rfl) (fun _ _ _ h => h) (Or.inl ⟨by rfl, ?_⟩) hHeld ?_ ?_
  rotate_left
  · (intro w hSw; (try dsimp only at hSw); go_simp; (try with_reducible rfl))
  rotate_left
  · simp only [Act.put, List.setIfInBounds_toArray, List.set_cons_zero, List.set_cons_succ]
    rfl
  refine take1_ (i := 4) (v := ?_) (a' := ?_) (some 45) #[true, true, true, true, true, false, false, false] rfl rfl (by kernel_rfl) (fun _ _ _ h => h) (Or.inl ⟨by rfl, ?_⟩) hHeld ?_ ?_
  rotate_left
  · (intro w hSw; (try dsimp only at hSw); go_simp; (try with_reducible rfl))
  rotate_left
  · simp only [Act.put, List.setIfInBounds_toArray, List.set_cons_zero, List.set_cons_succ]
    rfl
  refine take1_ (i := 5) (v := ?_) (a' := ?_) (some 46) #[true, true, true, true, true, true, false, false] rfl rfl (by kernel_rfl) (fun _ _ _ h => h) (Or.inl ⟨by rfl, ?_⟩) hHeld ?_ ?_
  rotate_left
  · (intro w hSw; (try dsimp only at hSw); go_simp; (try with_reducible rfl))
  rotate_left
  · simp only [Act.put, List.setIfInBounds_toArray, List.set_cons_zero, List.set_cons_succ]
    rfl
  refine take1_ (i := 6) (v := ?_) (a' := ?_) (some 47) #[true, true, true, true, true, true, true, false] rfl rfl (by kernel_rfl) (fun _ _ _ h => h) (Or.inl ⟨by rfl, ?_⟩) hHeld ?_ ?_
  rotate_left
  · (intro w hSw; (try dsimp only at hSw); go_simp; (try with_reducible rfl))
  rotate_left
  · simp only [Act.put, List.setIfInBounds_toArray, List.set_cons_zero, List.set_cons_succ]
    rfl
  refine loud1_ (i := 7) (some 48) #[true, true, true, true, true, true, true, true] rfl rfl (by kernel_rfl) (fun K hK => ?_)
  go_simp
  (go_at_call 188; refine HN.out.mono ?_; rintro e w6 ⟨rfl, hct⟩; have HCn := Lib.hid (HD.out.next hct); clear hct)
  refine hK.out _ _ (by trivial) (fun hHeld' => ?_)
  clear hK K hHeld
  have hHeld := hHeld'
  clear hHeld'
  try simp only [Act.put, List.setIfInBounds_toArray, List.set_cons_zero, List.set_cons_succ]
  refine wpAnyH_done (by kernel_rfl) ?_ _
  clear hHeld HN HD HC5
  have HC6 : Hid (CrPass w g v l 24 (decide (l.length < 24)) pb (sumF (rN l 0 8) (rN l 8 8) (decide (rN l 16 1 = 1)) (rN l 18 2 : Int) (rN l 20 4) (.slice none 0 0)) 65 w6) := Lib.hid (by
    have := HCn.out
    rw [show (decide (l.length < 20) || !rOk l 20 4) = decide (l.length < 20 + 4) from bad_next l 20 4 (by decide)] at this
    simpa [sumF] using this)
  clear HCn
  have HL := Lib.hid (lr_entry 24 pb 5 _ 65 HC6.out.form hl (by omega) HC6.out.cell (by simp [sumF]) hpg hv)
  unfold rV at HL
  go_wp2_with (go_at_call 130; go_must (refine HL.out.mono ?_; rintro e w7 ⟨v', J, rfl, hL, hJ⟩; have H7 := Lib.hid hL; have HJ := Lib.hid hJ; clear hL hJ))
  go_end0
  exact ⟨v', J, rfl, ⟨H7.out.form, by simpa [sumF] using H7.out.cell, own_mono H7.out.own HC6.out.keep.size, HC6.out.keep.trans H7.out.keep⟩, HJ.out⟩
end Go.Proofs.Ytcpfafmkhegckaa
/-
  Codec: write and read of one kind.
-/
namespace Go.Proofs.Ytcpfafmkhegckaa
open Go.RowKit
set_option linter.unusedVariables false
set_option linter.unusedSimpArgs false
set_option linter.unnecessarySimpa false
theorem infoSummary : (Try.prog.info? 65).map (·.size) = some 6 := by kernel_rfl
set_option maxRecDepth 10000 in
set_option maxHeartbeats 8000000 in
theorem wr_summary (kind : UInt8) (C : Array Value) (mayb : Bool) (L : List UInt8) (bad : Bool) (w : World) (hC : C.size = 6)
    (hm : ∀ w', Below w.heap.size w w' → Calls Try.prog 75 #[.agg C] w' fun e w'' => e = .returned (.bool mayb) ∧ Below w'.heap.size w' w'')
    (hp : ∀ w' base g pb, Below w.heap.size w w' → CwAt w' base g [] false → w'.heap[pb]? = some (.cells C 65 (0, 0)) → base ≤ w'.heap.size → pb < base → w.heap.size ≤ base → Calls Try.prog 74 #[wV g, .pointer (some ⟨pb, 0, none⟩)] w' (CwTo w' base g L bad)) :
    Calls Try.prog 73 #[.int .u8 (kind.toNat : Int), .agg C, .func (.func 74) #[] #[], .func (.func 75) #[] #[]] w (WrS w kind (mayb && !bad) L) := by
  have HC := Lib.hid hC
  have HM := Lib.hid hm
  have HP := Lib.hid hp
  clear hC hm hp
  go_enter Try.func73, Try.ntmps73
  go_upto_region 2 with fail
  have hA := a3 w (.cells C 65 (0, 0)) (.cells Try.zeroCells36 36 (0, 0)) (.cells #[.slice none 0 0, .bool false] 198 (0, 0))
  revert hA
  generalize ((w.alloc (.cells C 65 (0, 0))).alloc (.cells Try.zeroCells36 36 (0, 0))).alloc (.cells #[.slice none 0 0, .bool false] 198 (0, 0)) = w2
  intro hA
  have HA := Lib.hid hA
  clear hA
  cases mayb with
  | false =>
    go_wp2_with (first
      | (refine wpList_load_row rfl 65 (.tmp 5) rfl w.heap.size rfl _ _ _ _ HA.out.h0 Try.underlying65 rfl (by rw [HC.out]; exact infoSummary) ?_)
      | (go_at_call 75; refine (HM.out w2 HA.out.bel).mono ?_; rintro e w3 ⟨rfl, hb3⟩; have HT := Lib.hid (old_heap HA.out.h1 hb3); have HB := Lib.hid (bnext HA.out.bel hb3); clear hb3)
      | (refine wpList_store_row rfl 36 (.tmp 8) (.tmp 17) rfl (w.heap.size + 1) zArr zArr 36 rfl rfl HT.out (by rw [zArr_size]; exact size_sec) rfl zArr_one ?_))
    have hld := run_loadVar_row (P := Try.prog) (w3.setRow (w.heap.size + 1) zArr) (w.heap.size + 1) 36 36 zArr (0, 0) _ (setRow_heap _ _ _ _ _ _ HT.out) Try.underlying36 (by simp) (by rw [zArr_size]; exact size_sec)
    exact bodyPost_ret (v := .tuple #[secV (List.replicate 128 0), .int .i64 1]) (results_cell2 Try.results73 rfl rfl hld) rfl (wrS_no rfl rfl (below_row HB.out (by omega)))
  | true =>
    go_upto_region 4 with (first
      | (refine wpList_load_row rfl 65 (.tmp 5) rfl w.heap.size rfl _ _ _ _ HA.out.h0 Try.underlying65 rfl (by rw [HC.out]; exact infoSummary) ?_)
      | (go_at_call 75; refine (HM.out w2 HA.out.bel).mono ?_; rintro e w3 ⟨rfl, hb3⟩; have HB := Lib.hid (bnext HA.out.bel hb3); have HX := Lib.hid (old_heap HA.out.h0 hb3); have HT := Lib.hid (old_heap HA.out.h1 hb3); have HG := Lib.hid (old_heap HA.out.h2 hb3); clear hb3))
    have hgl := (Array.getElem?_eq_some_iff.1 HG.out).1
    have hcw : CwAt w3 (w.heap.size + 1 + 1) (w.heap.size + 1 + 1) [] false := ⟨.slice none 0 0, HG.out, own_none _ _ _, Nat.le_refl _, fun k hk => by cases hk⟩
    have hpp := HP.out w3 (w.heap.size + 1 + 1) (w.heap.size + 1 + 1) w.heap.size HB.out hcw HX.out (by omega) (by omega) (by omega)
    unfold CwTo wV at hpp
    have HPP := Lib.hid hpp
    clear hpp hcw hgl
    go_upto_region 5 with (go_at_call 74; refine HPP.out.mono ?_; rintro e w4 ⟨rfl, hcw, hb4⟩; have HB4 := Lib.hid (HB.out.trans (hb4.mono (by omega))); have HT4 := Lib.hid ((hb4.block (w.heap.size + 1) (by omega)).trans HT.out); have HCW := Lib.hid hcw; clear hcw hb4)
    obtain ⟨v4, hg4, ho4, -, -⟩ := HCW.out
    obtain ⟨sp4, cp4, rfl⟩ := own_slice1 ho4
    have HMK := Lib.hid (make_any kind _ L w4 (own_byt ho4).1)
    have c0 : w4.cell? ⟨w.heap.size + 1 + 1, 0, none⟩ = some (.slice sp4 L.length cp4) := cell_row hg4 0
    have c1 : w4.cell? ⟨w.heap.size + 1 + 1, 1, none⟩ = some (.bool bad) := cell_row hg4 1
    have hms : (bvs (makeS kind L)).toArray.size = 128 := by rw [secV_size, makeS_length]
    have HMS := Lib.hid hms
    clear hg4 ho4 HPP HCW HX HG HM HP hms
    cases bad with
    | true =>
      go_wp2_with (refine wpList_store_row rfl 36 (.tmp 8) (.tmp 26) rfl (w.heap.size + 1) zArr zArr 36 rfl rfl HT4.out (by rw [zArr_size]; exact size_sec) rfl zArr_one ?_)
      have hld := run_loadVar_row (P := Try.prog) (w4.setRow (w.heap.size + 1) zArr) (w.heap.size + 1) 36 36 zArr (0, 0) _ (setRow_heap _ _ _ _ _ _ HT4.out) Try.underlying36 (by simp) (by rw [zArr_size]; exact size_sec)
      exact bodyPost_ret (v := .tuple #[secV (List.replicate 128 0), .int .i64 1]) (results_cell2 Try.results73 rfl rfl hld) rfl (wrS_no rfl rfl (below_row HB4.out (by omega)))
    | false =>
      obtain ⟨S, hS⟩ : ∃ S, makeS kind L = S := ⟨_, rfl⟩
      obtain ⟨N, hN⟩ : ∃ N, makeE kind L = N := ⟨_, rfl⟩
      rw [hS, hN] at HMK
      rw [hS] at HMS
      have HS := Lib.hid hS
      have HN := Lib.hid hN
      clear hS hN
      unfold secV at HMK
      go_wp2_with (first
        | (go_at_call 53; refine HMK.out.mono ?_; rintro e w5 ⟨rfl, hb5⟩; have HT5 := Lib.hid (old_heap HT4.out hb5); have HB5 := Lib.hid (bnext HB4.out hb5); clear hb5)
        | (refine wpList_store_row rfl 36 (.tmp 8) (.tmp 33) rfl (w.heap.size + 1) zArr (bvs S).toArray 36 rfl rfl HT5.out (by rw [HMS.out]; exact size_sec) (by rw [HMS.out, zArr_size]) (sec_one _) ?_))
      have hld := run_loadVar_row (P := Try.prog) (w5.setRow (w.heap.size + 1) (bvs S).toArray) (w.heap.size + 1) 36 36 (bvs S).toArray (0, 0) _ (setRow_heap _ _ _ _ _ _ HT5.out) Try.underlying36 (by simp) (by rw [HMS.out]; exact size_sec)
      exact bodyPost_ret (v := .tuple #[secV S, .int .i64 N]) (results_cell2 Try.results73 rfl rfl hld) rfl (wrS_yes rfl (by rw [HS.out, HN.out]) (below_row HB5.out (by omega)))
set_option maxRecDepth 10000 in
set_option maxHeartbeats 4000000 in
theorem entrysEach_any (f : Value) (hf1 : f.oneCell' = true) (w : World) : Calls Try.prog 132 #[.int .i64 8, f] w fun e w' => e = .returned (.func (.func 157) #[] #[.pointer (some ⟨w.heap.size + 1, 0, none⟩), .pointer (some ⟨w.heap.size, 0, none⟩)]) ∧ w' = (w.alloc (.cells #[.int .i64 8] 3 (0, 0))).alloc (.cells #[f] 232 (0, 0)) := by
  have hmf : ∀ (fn : Fn) (first cap : Array Value) (w : World), (Instr.makeFunc fn first cap).run Try.prog w = .ok (.func fn first cap) w := fun _ _ _ _ => rfl
  go_enter Try.func132, Try.ntmps132
  go_wp2
  go_ret
  exact ⟨rfl, rfl⟩
set_option maxRecDepth 10000 in
set_option maxHeartbeats 4000000 in
theorem summaryMay_any (x : Smy) (A : Option Addr) (c : Nat) (w : World) (hR : ReadAt w A Ent5.cells 4 x.ents) (hL : x.ents.length ≤ 140737488355328) :
    Calls Try.prog 75 #[.agg (sumF x.seq x.first x.commit x.next x.time (.slice A x.ents.length c))] w fun e w' => e = .returned (.bool (entrysMay x.ents)) ∧ Below w.heap.size w w' := by
  obtain ⟨C, hC⟩ : ∃ C, sumF x.seq x.first x.commit x.next x.time (.slice A x.ents.length c) = C := ⟨_, rfl⟩
  have hx5 : C[5]? = some (.slice A x.ents.length c) := by rw [← hC]; rfl
  rw [hC]
  generalize x.ents = L at hR hL hx5 ⊢
  clear hC
  have hba : Below w.heap.size w (w.alloc (.cells C 65 (0, 0))) := (Below.refl _ _).alloc (Nat.le_refl _) _
  have h5 := (cell_row (heap_alloc_last w (.cells C 65 (0, 0))) 5).trans hx5
  have hR1 := hR.below Ent5.cells_len hba
  have HBA := Lib.hid hba
  have HR1 := Lib.hid hR1
  clear hba hR1 hx5
  go_enter Try.func75, Try.ntmps75
  go_upto_region 1 with fail
  revert h5 HBA HR1
  generalize w.alloc (.cells C 65 (0, 0)) = w1
  intro h5 HBA HR1
  have HS5 : Hid ((w1.drew).cell? ⟨w.heap.size, 5, none⟩ = some (.slice A L.length c)) := Lib.hid h5
  have HB1 := Lib.hid (HBA.out.drew)
  have HR2 : Hid (ReadAt w1.drew A Ent5.cells 4 L) := Lib.hid HR1.out
  have hlt := World.block_lt_of_cell? w1 _ h5
  dsimp only at hlt
  have HLT := Lib.hid hlt
  revert HS5 HB1 HR2
  generalize hw1 : w1.drew = w1d
  intro HS5 HB1 HR2
  have hb2 : Below w1d.heap.size w1d ((w1d.alloc (.cells #[.int .i64 8] 3 (0, 0))).alloc (.cells #[.func (.func 133) #[] #[]] 232 (0, 0))) := ((Below.refl _ _).alloc (Nat.le_refl _) _).alloc (by simp) _
  have hG2 := old_heap (heap_alloc_last w1d (.cells #[.int .i64 8] 3 (0, 0))) ((Below.refl _ _).alloc (Nat.le_refl _) (.cells #[.func (.func 133) #[] #[]] 232 (0, 0)))
  have hT2 := heap_alloc_last (w1d.alloc (.cells #[.int .i64 8] 3 (0, 0))) (.cells #[.func (.func 133) #[] #[]] 232 (0, 0))
  rw [show (w1d.alloc (.cells #[.int .i64 8] 3 (0, 0))).heap.size = w1d.heap.size + 1 by simp] at hT2
  have HE := Lib.hid (entrysEach_any (.func (.func 133) #[] #[]) rfl w1d)
  have hltd : w.heap.size < w1d.heap.size := by rw [← hw1]; exact hlt
  have HM := Lib.hid (entryEach_any L A c (w1d.heap.size + 1) w1d.heap.size _ (cell_row hT2 0) (cell_row hG2 0) (HR2.out.below Ent5.cells_len hb2) hL)
  have HB := Lib.hid (bnext HB1.out hb2)
  have HC2 := Lib.hid ((hb2.cell (p := ⟨w.heap.size, 5, none⟩) hltd).trans HS5.out)
  clear hb2 hG2 hT2
  revert HE HM HB HC2
  generalize hw2 : (w1d.alloc (.cells #[.int .i64 8] 3 (0, 0))).alloc (.cells #[.func (.func 133) #[] #[]] 232 (0, 0)) = w2
  intro HE HM HB HC2
  have HW := Lib.hid hw2
  have HW1 := Lib.hid hw1
  clear hw2 hw1 hlt hltd hR
  refine wp_region_held_drew (S := (fun w' => w'.cell? ⟨w.heap.size, 5, none⟩ = some (.slice A L.length c))) (by kernel_rfl) (by exact h5) (fun hHeld => ?_)
  refine take1_ (i := 1) (v := ?_) (a' := ?_) (some 4) #[false, true, false, false, false] rfl rfl (by kernel_rfl) (fun _ _ _ h => h) (Or.inl ⟨by rfl, ?_⟩) hHeld ?_ ?_
  rotate_left
  · (intro w hSw; (try dsimp only at hSw); go_simp; (try with_reducible rfl))
  rotate_left
  · simp only [Act.put, List.setIfInBounds_toArray, List.set_cons_zero, List.set_cons_succ]
    rfl
  refine take1_ (i := 2) (v := ?_) (a' := ?_) (some 5) #[false, true, true, false, false] rfl rfl (by kernel_rfl) (fun _ _ _ h => h) (Or.inl ⟨by rfl, ?_⟩) hHeld ?_ ?_
  rotate_left
  · (intro w hSw; (try dsimp only at hSw); go_simp; (try with_reducible rfl))
  rotate_left
  · simp only [Act.put, List.setIfInBounds_toArray, List.set_cons_zero, List.set_cons_succ]
    rfl
  refine loud1_ (i := 0) (some 3) #[true, true, true, false, false] rfl rfl (by kernel_rfl) (fun K hK => ?_)
  go_simp
  (rw [HW1.out]; go_at_call 132; go_must (refine HE.out.mono ?_; rintro e w3 ⟨rfl, rfl⟩; have hnx := HC2.out))
  refine hK.out _ _ (by exact hnx) (fun hHeld' => ?_)
  clear hK K hHeld
  have hHeld := hHeld'
  clear hHeld'
  try simp only [Act.put, List.setIfInBounds_toArray, List.set_cons_zero, List.set_cons_succ]
  refine loud1_ (i := 3) (some 6) #[true, true, true, true, false] rfl rfl (by kernel_rfl) (fun K hK => ?_)
  go_simp
  (go_at_call 157; go_must (refine HM.out.mono ?_; rintro e w4 ⟨rfl, hb4⟩; have HB4 := Lib.hid (bnext HB.out hb4); have hnx := (hb4.cell (p := ⟨w.heap.size, 5, none⟩) (World.block_lt_of_cell? _ _ HC2.out)).trans HC2.out; clear hb4))
  refine hK.out _ _ (by exact hnx) (fun hHeld' => ?_)
  clear hK K hHeld
  have hHeld := hHeld'
  clear hHeld'
  try simp only [Act.put, List.setIfInBounds_toArray, List.set_cons_zero, List.set_cons_succ]
  refine take1_ (i := 4) (v := ?_) (a' := ?_) (some 2) #[true, true, true, true, true] rfl rfl (by kernel_rfl) (fun _ _ _ h => h) (Or.inl ⟨by rfl, ?_⟩) hHeld ?_ ?_
  rotate_left
  · (intro w hSw; (try dsimp only at hSw); go_simp; (try with_reducible rfl))
  rotate_left
  · simp only [Act.put, List.setIfInBounds_toArray, List.set_cons_zero, List.set_cons_succ]
    rfl
  refine wpAnyH_done (by kernel_rfl) ?_ _
  clear hHeld hnx
  go_wp2
  go_ret
  exact ⟨rfl, HB4.out⟩
theorem own_setRow {w : World} {base base' e size n b : Nat} {v : Value} {xs : List Value} {cs : Array Value} (h : w.ownsRow base e size v n xs) (hl : base' ≤ base) (hb : b < base) : (w.setRow b cs).ownsRow base' e size v n xs := by
  refine own_move (own_low h hl) (fun k hk => ?_)
  have h1 := (h.lt k hk).1
  exact setRow_other _ _ _ _ (by omega)
/-- What writing comes to. -/
def sumWr (x : Smy) : Bool := entrysMay x.ents && !fBad (sumL x)
theorem wrs_summary (x : Smy) (hx : x.Ok) (A : Option Addr) (c : Nat) (w : World) (hR : ReadAt w A Ent5.cells 4 x.ents) (hA : ∀ a, A = some a → a.block < w.heap.size) :
    Calls Try.prog 73 #[.int .u8 3, .agg (sumF x.seq x.first x.commit x.next x.time (.slice A x.ents.length c)), .func (.func 74) #[] #[], .func (.func 75) #[] #[]] w (WrS w 3 (sumWr x) (fB (sumL x))) :=
  wr_summary 3 _ (entrysMay x.ents) (fB (sumL x)) (fBad (sumL x)) w rfl (fun w' hb => summaryMay_any x A c w' (hR.below Ent5.cells_len hb) (by have := hx.len; omega))
    (fun w' base g pb hb hcw hpb hbs hpl hwb => by
      have := pw_summary x hx A c pb hcw hpb (hR.below Ent5.cells_len hb) (fun a ha => Nat.lt_of_lt_of_le (hA a ha) hwb) (by simp) hbs hpl
      simpa using this)
def sumN (b : List UInt8) : Nat := (b.length - 24) / 9
def sumRdOk (l : List UInt8) : Bool := (openB l && decide (openK l = 3)) && (decide (24 ≤ (openL l).length ∧ ((openL l).length - 24) % 9 = 0) && entrysMay (entrys (openL l) 24 (sumN (openL l))))
def sumNone : Smy := ⟨0, 0, false, 0, 0, []⟩
def sumRdX (l : List UInt8) : Smy := if sumRdOk l then rsum (openL l) (sumN (openL l)) else sumNone
def Smy.cells (x : Smy) (v : Value) : Array Value := sumF x.seq x.first x.commit x.next x.time v
/-- What reading comes to. -/
def RlSum (w : World) (ok : Bool) (x : Smy) (e : Ending) (w' : World) : Prop :=
  ∃ v', e = .returned (.tuple #[.agg (x.cells v'), .int .i64 (if ok then 0 else 21)]) ∧ w'.ownsRow w.heap.size 155 4 v' x.ents.length (rowsOf Ent5.cells x.ents) ∧ Below w.heap.size w w'
theorem rlSum_no {w w' : World} {l : List UInt8} {e : Ending} (h : sumRdOk l = false) (he : e = .returned (.tuple #[.agg (sumF 0 0 false 0 0 (.slice none 0 0)), .int .i64 21])) (hb : Below w.heap.size w w') : RlSum w (sumRdOk l) (sumRdX l) e w' := by
  unfold RlSum sumRdX
  rw [h]
  exact ⟨_, he, own_nilk _ _ _ _, hb⟩
theorem rlSum_yes {w w' : World} {l b : List UInt8} {e : Ending} {v' : Value} {J : Nat} (h : sumRdOk l = true) (hb : openL l = b) (hJ : sumN b = J) (he : e = .returned (.tuple #[.agg (sumF (rN b 0 8) (rN b 8 8) (decide (rN b 16 1 = 1)) (rN b 18 2 : Int) (rN b 20 4) v'), .int .i64 0])) (ho : w'.ownsRow w.heap.size 155 4 v' J (rowsOf Ent5.cells (entrys b 24 J))) (hbl : Below w.heap.size w w') : RlSum w (sumRdOk l) (sumRdX l) e w' := by
  unfold RlSum sumRdX
  rw [h, if_pos rfl, if_pos rfl, hb, hJ]
  exact ⟨v', he, by show World.ownsRow _ _ _ _ _ (entrys b 24 J).length _; rw [entrys_len]; exact ho, hbl⟩
set_option maxRecDepth 10000 in
set_option maxHeartbeats 8000000 in
theorem rds_summary (l : List UInt8) (w : World) (hl : l.length = 128) :
    Calls Try.prog 121 #[.int .u8 3, secV l, .func (.func 74) #[] #[], .func (.func 75) #[] #[]] w (RlSum w (sumRdOk l) (sumRdX l)) := by
  obtain ⟨Z, hZ⟩ : ∃ Z, (sumF 0 0 false 0 0 (.slice none 0 0)) = Z := ⟨_, rfl⟩
  have HZS : Hid (Z.size = 6) := by rw [← hZ]; exact rfl
  have HZ1 : Hid (Z.all (·.oneCell') = true) := by unfold Hid; rw [← hZ]; kernel_rfl
  have HQL : Hid (#[.int .u64 0, .int .u64 0, .bool false, .int .i64 0, .int .u32 0, .slice none 0 0] = Z) := Lib.hid hZ
  have HZE := Lib.hid hZ
  clear hZ
  have HSZ : Hid ((bvs l).toArray.size = 128) := by unfold Hid; rw [secV_size, hl]
  have HBL := Lib.hid (openL_le l)
  have hop := fun w' => open_any l w' hl
  obtain ⟨k, hk⟩ : ∃ k, openK l = k := ⟨_, rfl⟩
  obtain ⟨b, hb⟩ : ∃ b, openL l = b := ⟨_, rfl⟩
  obtain ⟨oe, hoe⟩ : ∃ oe, openE l = oe := ⟨_, rfl⟩
  rw [hk, hb, hoe] at hop
  rw [hb] at HBL
  have hokd : sumRdOk l = ((openB l && decide (k = 3)) && (decide (24 ≤ b.length ∧ (b.length - 24) % 9 = 0) && entrysMay (entrys b 24 (sumN b)))) := by unfold sumRdOk; rw [hk, hb]
  have HOKD := Lib.hid hokd
  have HBE := Lib.hid hb
  have HOP := fun w' => Lib.hid (hop w')
  have HOE := Lib.hid hoe
  clear hop hk hb hoe hl hokd
  unfold secV at HOP ⊢
  unfold OpTo at HOP
  go_enter Try.func121, Try.ntmps121
  go_upto_region 2 with fail
  have hA := a4 w (.cells (bvs l).toArray 36 (0, 0)) (.cells #[.int .u64 0, .int .u64 0, .bool false, .int .i64 0, .int .u32 0, .slice none 0 0] 65 (0, 0)) (.cells #[.int .u64 0, .int .u64 0, .bool false, .int .i64 0, .int .u32 0, .slice none 0 0] 65 (0, 0)) (.cells #[.int .u64 0, .int .u64 0, .bool false, .int .i64 0, .int .u32 0, .slice none 0 0] 65 (0, 0))
  revert hA
  generalize (((w.alloc (.cells (bvs l).toArray 36 (0, 0))).alloc (.cells #[.int .u64 0, .int .u64 0, .bool false, .int .i64 0, .int .u32 0, .slice none 0 0] 65 (0, 0))).alloc (.cells #[.int .u64 0, .int .u64 0, .bool false, .int .i64 0, .int .u32 0, .slice none 0 0] 65 (0, 0))).alloc (.cells #[.int .u64 0, .int .u64 0, .bool false, .int .i64 0, .int .u32 0, .slice none 0 0] 65 (0, 0)) = w2
  intro hA
  rw [HQL.out] at hA
  have HA := Lib.hid hA
  clear hA
  go_upto_region 3 with (first
    | (refine wpList_load_row rfl 36 (.tmp 5) rfl w.heap.size rfl _ _ _ _ HA.out.h0 Try.underlying36 rfl (by rw [HSZ.out]; exact size_sec) ?_)
    | (go_at_call 58; refine (HOP _).out.mono ?_; rintro e w3 ⟨v, rfl, ho3, hb3⟩; obtain ⟨sp, cp, rfl⟩ := own_slice1 ho3; have HO3 := Lib.hid ho3; have HB3 := Lib.hid (bnext HA.out.bel hb3); have HR := Lib.hid (old_heap HA.out.h1 hb3); have HX := Lib.hid (old_heap HA.out.h2 hb3); have HN := Lib.hid (old_heap HA.out.h3 hb3); have hs3 := hb3.size; clear ho3 hb3))
  have hs2 := HA.out.size
  have hz3 : w.heap.size + 1 + 1 + 1 + 1 ≤ w3.heap.size := by omega
  have HZ2 := Lib.hid (show w.heap.size + 1 + 1 < w2.heap.size by omega)
  clear hs2 hs3 HA
  have HZ3 := Lib.hid hz3
  clear hz3
  cases ho : openB l with
  | false =>
    obtain rfl : oe = 21 := by rw [← HOE.out]; unfold openE; rw [ho]; rfl
    have hno : sumRdOk l = false := by rw [HOKD.out, ho]; rfl
    have HNO := Lib.hid hno
    clear hno
    go_wp2_with (first
      | (refine wpList_load_row rfl 65 (.tmp 11) rfl (w.heap.size + 1 + 1 + 1) rfl _ _ _ _ HN.out Try.underlying65 rfl (by rw [HZS.out]; exact infoSummary) ?_)
      | (refine wpList_store_row rfl 65 (.tmp 8) (.tmp 29) rfl (w.heap.size + 1) Z Z 65 rfl rfl HR.out (by rw [HZS.out]; exact infoSummary) rfl HZ1.out ?_))
    have hld := run_loadVar_row (P := Try.prog) (w3.setRow (w.heap.size + 1) Z) (w.heap.size + 1) 65 65 Z (0, 0) _ (setRow_heap _ _ _ _ _ _ HR.out) Try.underlying65 (by simp) (by rw [HZS.out]; exact infoSummary)
    exact bodyPost_ret (v := .tuple #[.agg Z, .int .i64 21]) (results_cell2 Try.results121 rfl rfl hld) rfl (rlSum_no HNO.out (by rw [HZE.out]) (below_row HB3.out (by omega)))
  | true =>
    obtain rfl : oe = 0 := by rw [← HOE.out]; unfold openE; rw [ho]; rfl
    by_cases hk : k = 3
    · subst hk
      have hkk := kind_eq 3
      go_upto_region 6 with fail
      have hg4 := heap_alloc_last w3 (.cells #[.slice sp b.length cp, .int .i64 0, .bool false] 242 (0, 0))
      have hb4 : Below w3.heap.size w3 (w3.alloc (.cells #[.slice sp b.length cp, .int .i64 0, .bool false] 242 (0, 0))) := (Below.refl _ _).alloc (Nat.le_refl _) _
      revert hg4 hb4
      generalize w3.alloc (.cells #[.slice sp b.length cp, .int .i64 0, .bool false] 242 (0, 0)) = w4
      intro hg4 hb4
      have hbt4 := (own_byt HO3.out).1.below hb4
      have hcr : CrAt w4 w3.heap.size (.slice sp b.length cp) b 0 false := ⟨hg4, hbt4, byt_apart (own_byt HO3.out).1⟩
      have hap : Apart (· = w.heap.size + 1 + 1) (.slice sp b.length cp) b := own_apart HO3.out (by have := HZ2.out; omega)
      have HPP := Lib.hid (pr_summary (w.heap.size + 1 + 1) hcr HBL.out (by rw [HZE.out]; exact old_heap HX.out hb4) (by have := HZ3.out; omega) hap)
      unfold rV at HPP
      have HB4 := Lib.hid (bnext HB3.out hb4)
      have HR4 := Lib.hid (old_heap HR.out hb4)
      have HN4 := Lib.hid (old_heap HN.out hb4)
      have HS4 := Lib.hid hb4.size
      have hne : w3.heap.size ≠ w.heap.size + 1 ∧ w3.heap.size ≠ w.heap.size + 1 + 1 + 1 := by have := HZ3.out; omega
      have HNE := Lib.hid hne
      clear hg4 hb4 hbt4 hcr hap HR HN HX hne
      go_upto_region 7 with (go_at_call 74; go_must (refine HPP.out.mono ?_; rintro e w5 ⟨v', J, rfl, hlr, hJ1, hJ2⟩; have HLR := Lib.hid hlr; have HJ1 := Lib.hid hJ1; have HJ2 := Lib.hid hJ2; clear hlr hJ1 hJ2))
      have hown := HLR.out.own
      obtain ⟨s', c', rfl⟩ := own_slice1 hown
      have c0 : w5.cell? ⟨w3.heap.size, 0, none⟩ = some (.slice sp b.length cp) := cell_row HLR.out.form.box 0
      have c1 : w5.cell? ⟨w3.heap.size, 1, none⟩ = some (.int .i64 ((24 + J * 9 : Nat) : Int)) := cell_row HLR.out.form.box 1
      have c2 : w5.cell? ⟨w3.heap.size, 2, none⟩ = some (.bool (decide (b.length < 24 + J * 9))) := cell_row HLR.out.form.box 2
      have HR5 := Lib.hid (HLR.out.keep.heap HR4.out (by have := HNE.out; omega))
      have HN5 := Lib.hid (HLR.out.keep.heap HN4.out (by have := HNE.out; omega))
      have HB5 := Lib.hid (keep_below2 HB4.out HLR.out.keep (Nat.le_refl _) (by have := HZ3.out; omega) (by omega))
      obtain ⟨V, hV⟩ : ∃ V, sumF (rN b 0 8) (rN b 8 8) (decide (rN b 16 1 = 1)) (rN b 18 2 : Int) (rN b 20 4) (.slice s' J c') = V := ⟨_, rfl⟩
      have hX5 := HLR.out.cell
      rw [hV] at hX5
      have HX5 := Lib.hid hX5
      have HVE := Lib.hid hV
      have HV : Hid (V.size = 6) := by rw [← hV]; exact rfl
      have HV1 : Hid (V.all (·.oneCell') = true) := by unfold Hid; rw [← hV]; simp [sumF, Value.oneCell']
      clear HPP HR4 HN4 HB4 HO3 hX5 hV
      obtain ⟨m, hm⟩ : ∃ m, 24 + J * 9 = m := ⟨_, rfl⟩
      rw [hm] at c1 c2
      have HMM := Lib.hid hm
      by_cases hat : m = b.length
      · have hbd : decide (b.length < m) = false := by rw [decide_eq_false_iff_not]; omega
        rw [hbd] at c2
        have hatI : ((m : Int) != (b.length : Int)) = false := by simp [hat]
        have hdiv : sumN b = J := by unfold sumN; omega
        have hmod : decide (24 ≤ b.length ∧ (b.length - 24) % 9 = 0) = true := decide_eq_true ⟨by omega, by omega⟩
        have hokd : sumRdOk l = entrysMay (entrys b 24 J) := by rw [HOKD.out, ho, hmod, hdiv]; simp
        have hrl : ReadAt w5 s' Ent5.cells 4 (entrys b 24 J) := by
          obtain ⟨A9, c9, e9, -, -, -, h9, -⟩ := own_rows (F := fun _ => False) Ent5.cells_len hown (entrys_len b 24 J).symm (fun _ _ => id)
          injection e9 with e9
          subst e9
          exact h9
        have hmy := summaryMay_any (rsum b J) s' c' w5 hrl (by show (entrys b 24 J).length ≤ _; rw [entrys_len]; have := HBL.out; omega)
        rw [show (rsum b J).ents = entrys b 24 J from rfl, entrys_len, show sumF (rsum b J).seq (rsum b J).first (rsum b J).commit (rsum b J).next (rsum b J).time (.slice s' J c') = V from HVE.out] at hmy
        have HOK2 := Lib.hid hokd
        have HDIV := Lib.hid hdiv
        obtain ⟨q, hq⟩ : ∃ q, entrysMay (entrys b 24 J) = q := ⟨_, rfl⟩
        rw [hq] at hmy HOK2
        have HMY := Lib.hid hmy
        have HOWN := Lib.hid hown
        clear hown hm hat hbd hdiv hmod hokd hrl hmy hq
        cases q with
        | true =>
          go_wp2_with (first
            | (refine wpList_load_row_g (by rfl) 65 (.tmp 10) rfl (w.heap.size + 1 + 1) rfl _ _ _ _ HX5.out Try.underlying65 rfl (by rw [HV.out]; exact infoSummary) ?_)
            | (go_at_call 75; go_must (refine HMY.out.mono ?_; rintro e w6 ⟨rfl, hb6⟩; have HR6 := Lib.hid (old_heap HR5.out hb6); have HX6 := Lib.hid (old_heap HX5.out hb6); have HO6 := Lib.hid (own_below HOWN.out hb6); have HB6 := Lib.hid (bnext HB5.out hb6); clear hb6))
            | (refine wpList_load_row rfl 65 (.tmp 10) rfl (w.heap.size + 1 + 1) rfl _ _ _ _ HX6.out Try.underlying65 rfl (by rw [HV.out]; exact infoSummary) ?_)
            | (refine wpList_store_row rfl 65 (.tmp 8) (.tmp 57) rfl (w.heap.size + 1) Z V 65 rfl rfl HR6.out (by rw [HV.out]; exact infoSummary) (by rw [HV.out, HZS.out]) HV1.out ?_))
          have hld := run_loadVar_row (P := Try.prog) (w6.setRow (w.heap.size + 1) V) (w.heap.size + 1) 65 65 V (0, 0) _ (setRow_heap _ _ _ _ _ _ HR6.out) Try.underlying65 (by simp) (by rw [HV.out]; exact infoSummary)
          exact bodyPost_ret (v := .tuple #[.agg V, .int .i64 0]) (results_cell2 Try.results121 rfl rfl hld) rfl (rlSum_yes HOK2.out HBE.out HDIV.out (by rw [HVE.out]) (own_setRow HO6.out (by have := HZ3.out; have := HS4.out; omega) (by have := HZ3.out; have := HS4.out; omega)) (below_row HB6.out (by omega)))
        | false =>
          have HNO := HOK2
          go_wp2_with (first
            | (refine wpList_load_row_g (by rfl) 65 (.tmp 10) rfl (w.heap.size + 1 + 1) rfl _ _ _ _ HX5.out Try.underlying65 rfl (by rw [HV.out]; exact infoSummary) ?_)
            | (go_at_call 75; go_must (refine HMY.out.mono ?_; rintro e w6 ⟨rfl, hb6⟩; have HR6 := Lib.hid (old_heap HR5.out hb6); have HN6 := Lib.hid (old_heap HN5.out hb6); have HB6 := Lib.hid (bnext HB5.out hb6); clear hb6))
            | (refine wpList_load_row rfl 65 (.tmp 11) rfl (w.heap.size + 1 + 1 + 1) rfl _ _ _ _ HN6.out Try.underlying65 rfl (by rw [HZS.out]; exact infoSummary) ?_)
            | (refine wpList_store_row rfl 65 (.tmp 8) (.tmp 56) rfl (w.heap.size + 1) Z Z 65 rfl rfl HR6.out (by rw [HZS.out]; exact infoSummary) rfl HZ1.out ?_))
          have hld := run_loadVar_row (P := Try.prog) (w6.setRow (w.heap.size + 1) Z) (w.heap.size + 1) 65 65 Z (0, 0) _ (setRow_heap _ _ _ _ _ _ HR6.out) Try.underlying65 (by simp) (by rw [HZS.out]; exact infoSummary)
          exact bodyPost_ret (v := .tuple #[.agg Z, .int .i64 21]) (results_cell2 Try.results121 rfl rfl hld) rfl (rlSum_no HNO.out (by rw [HZE.out]) (below_row HB6.out (by omega)))
      · have hlt : b.length < m := by
          rcases Nat.lt_or_ge b.length m with h | h
          · exact h
          · have := HJ1.out; omega
        rw [decide_eq_true hlt] at c2
        have hno : sumRdOk l = false := by
          have h1 : ¬ (24 ≤ b.length ∧ (b.length - 24) % 9 = 0) := fun ⟨h1, h2⟩ => by
            rcases HJ2.out with h | h
            · subst h; omega
            · omega
          rw [HOKD.out, decide_eq_false h1]; simp
        have HNO := Lib.hid hno
        clear hown hm hat hlt hno
        go_wp2_with (first
          | (refine wpList_load_row rfl 65 (.tmp 11) rfl (w.heap.size + 1 + 1 + 1) rfl _ _ _ _ HN5.out Try.underlying65 rfl (by rw [HZS.out]; exact infoSummary) ?_)
          | (refine wpList_store_row rfl 65 (.tmp 8) (.tmp 56) rfl (w.heap.size + 1) Z Z 65 rfl rfl HR5.out (by rw [HZS.out]; exact infoSummary) rfl HZ1.out ?_))
        have hld := run_loadVar_row (P := Try.prog) (w5.setRow (w.heap.size + 1) Z) (w.heap.size + 1) 65 65 Z (0, 0) _ (setRow_heap _ _ _ _ _ _ HR5.out) Try.underlying65 (by simp) (by rw [HZS.out]; exact infoSummary)
        exact bodyPost_ret (v := .tuple #[.agg Z, .int .i64 21]) (results_cell2 Try.results121 rfl rfl hld) rfl (rlSum_no HNO.out (by rw [HZE.out]) (below_row HB5.out (by omega)))
    · have hkk : ((k.toNat : Int) != 3) = true := kind_ne k 3 hk
      have hno : sumRdOk l = false := by rw [HOKD.out]; simp [hk]
      have HNO := Lib.hid hno
      clear hk hno
      go_wp2_with (first
        | (refine wpList_load_row rfl 65 (.tmp 11) rfl (w.heap.size + 1 + 1 + 1) rfl _ _ _ _ HN.out Try.underlying65 rfl (by rw [HZS.out]; exact infoSummary) ?_)
        | (refine wpList_store_row rfl 65 (.tmp 8) (.tmp 29) rfl (w.heap.size + 1) Z Z 65 rfl rfl HR.out (by rw [HZS.out]; exact infoSummary) rfl HZ1.out ?_))
      have hld := run_loadVar_row (P := Try.prog) (w3.setRow (w.heap.size + 1) Z) (w.heap.size + 1) 65 65 Z (0, 0) _ (setRow_heap _ _ _ _ _ _ HR.out) Try.underlying65 (by simp) (by rw [HZS.out]; exact infoSummary)
      exact bodyPost_ret (v := .tuple #[.agg Z, .int .i64 21]) (results_cell2 Try.results121 rfl rfl hld) rfl (rlSum_no HNO.out (by rw [HZE.out]) (below_row HB3.out (by omega)))
end Go.Proofs.Ytcpfafmkhegckaa
/-
  Codec: the program's WriteSummary and ReadSummary.
-/
namespace Go.Proofs.Ytcpfafmkhegckaa
open Go.RowKit
set_option linter.unusedVariables false
set_option linter.unusedSimpArgs false
set_option linter.unnecessarySimpa false
theorem sumF_size (x : Smy) (v : Value) : (x.cells v).size = 6 := rfl
theorem built_sum : Try.prog.built 65 [] = some #[.int .u64 0, .int .u64 0, .bool false, .int .i64 0, .int .u32 0, .slice none 0 0] := by kernel_rfl
set_option maxRecDepth 10000 in
set_option maxHeartbeats 4000000 in
theorem writeSummary_any (x : Smy) (hx : x.Ok) (A : Option Addr) (c : Nat) (w : World) (hR : ReadAt w A Ent5.cells 4 x.ents) (hA : ∀ a, A = some a → a.block < w.heap.size) :
    Calls Try.prog 23 #[.agg (x.cells (.slice A x.ents.length c))] w (WrS w 3 (sumWr x) (fB (sumL x))) := by
  have hwr := fun w' (hb : Below w.heap.size w w') => wrs_summary x hx A c w' (hR.below Ent5.cells_len hb) (fun a ha => Nat.lt_of_lt_of_le (hA a ha) hb.size)
  obtain ⟨C, hC⟩ : ∃ C, x.cells (.slice A x.ents.length c) = C := ⟨_, rfl⟩
  obtain ⟨ok, hok⟩ : ∃ ok, sumWr x = ok := ⟨_, rfl⟩
  obtain ⟨L, hL⟩ : ∃ L, fB (sumL x) = L := ⟨_, rfl⟩
  have hC2 : sumF x.seq x.first x.commit x.next x.time (.slice A x.ents.length c) = C := hC
  have hCs : C.size = 6 := by rw [← hC]; rfl
  rw [hok, hL, hC2] at hwr
  rw [hC, hok, hL]
  have hB1 : Below w.heap.size w ((w.alloc (.cells C 65 (0, 0))).alloc (.cells Try.zeroCells36 36 (0, 0))) := ((Below.refl _ _).alloc (Nat.le_refl _) _).alloc (by simp) _
  have hG1 := old_heap (heap_alloc_last w (.cells C 65 (0, 0))) ((Below.refl _ _).alloc (Nat.le_refl _) (.cells Try.zeroCells36 36 (0, 0)))
  have hT1 := heap_alloc_last (w.alloc (.cells C 65 (0, 0))) (.cells Try.zeroCells36 36 (0, 0))
  rw [show (w.alloc (.cells C 65 (0, 0))).heap.size = w.heap.size + 1 by simp] at hT1
  have HIS := Lib.hid hCs
  have HWR := fun w' hb => Lib.hid (hwr w' hb)
  have HB1 := Lib.hid hB1
  have HG1 := Lib.hid hG1
  have HT1 := Lib.hid hT1
  clear hwr hB1 hG1 hT1 hx hC hok hL hC2 hCs hR hA
  have hS : (bvs (wrS 3 ok L)).toArray.size = 128 := by rw [secV_size, wrS_length]
  have HSS := Lib.hid hS
  clear hS
  unfold WrS at HWR
  go_enter Try.func23, Try.ntmps23
  go_upto_region 1 with fail
  revert HB1 HG1 HT1
  generalize (w.alloc (.cells C 65 (0, 0))).alloc (.cells Try.zeroCells36 36 (0, 0)) = w1
  intro HB1 HG1 HT1
  go_wp2_with (first
    | (refine wpList_load_row rfl 65 (.tmp 1) rfl w.heap.size rfl _ _ _ _ HG1.out Try.underlying65 rfl (by rw [HIS.out]; exact infoSummary) ?_)
    | (go_at_call 73; go_must (refine (HWR _ HB1.out).out.mono ?_; rintro e w2 ⟨rfl, hb2⟩; unfold secV; have HT2 := Lib.hid (old_heap HT1.out hb2); have HB2 := Lib.hid (bnext HB1.out hb2); clear hb2))
    | (refine wpList_store_row rfl 36 (.tmp 2) (.tmp 6) rfl (w.heap.size + 1) zArr (bvs (wrS 3 ok L)).toArray 36 rfl rfl HT2.out (by rw [HSS.out]; exact size_sec) (by rw [HSS.out, zArr_size]) (sec_one _) ?_))
  have hld := run_loadVar_row (P := Try.prog) (w2.setRow (w.heap.size + 1) (bvs (wrS 3 ok L)).toArray) (w.heap.size + 1) 36 36 (bvs (wrS 3 ok L)).toArray (0, 0) _ (setRow_heap _ _ _ _ _ _ HT2.out) Try.underlying36 (by simp) (by rw [HSS.out]; exact size_sec)
  exact bodyPost_ret (v := .tuple #[secV (wrS 3 ok L), .int .i64 (wrE 3 ok L)]) (results_cell2 Try.results23 rfl rfl hld) rfl ⟨rfl, below_row HB2.out (by omega)⟩
def sumB (x : Smy) : Bool := sumWr x && mayB 3 (fB (sumL x))
def sumS (x : Smy) : List UInt8 := wrS 3 (sumWr x) (fB (sumL x))
theorem sumS_length (x : Smy) : (sumS x).length = 128 := wrS_length _ _ _
theorem sumE_eq (x : Smy) : wrE 3 (sumWr x) (fB (sumL x)) = if sumB x then 0 else 1 := by
  unfold wrE sumB
  unfold makeE
  cases sumWr x <;> cases mayB 3 (fB (sumL x)) <;> rfl
theorem sumNone_ok : sumNone.Ok := ⟨by decide, by decide, ⟨by decide, by decide⟩, by decide, fun y hy => (List.not_mem_nil hy).elim, by decide⟩
theorem rsum_ok (b : List UInt8) (J : Nat) (hJ : J ≤ 1000) : (rsum b J).Ok := by
  have h := fun a k (hk : k ≤ 4) => Nat.lt_of_lt_of_le (rN_lt b a k) (Nat.pow_le_pow_right (n := 256) (by decide) hk)
  have h8 := fun a => rN_lt b a 8
  refine ⟨h8 _, h8 _, ⟨by have := h 18 2 (by decide); show (_ : Int) ≤ (rN b 18 2 : Int); omega, by have := h 18 2 (by decide); show (rN b 18 2 : Int) ≤ _; omega⟩, h _ _ (by decide), fun y hy => ?_, by show (entrys b 24 J).length ≤ 1000; rw [entrys_len]; exact hJ⟩
  obtain ⟨q, _, rfl⟩ := List.mem_map.1 (show y ∈ (List.range J).map fun q => rentry b (24 + q * 9) from hy)
  exact rentry_ok _ _
theorem sumRdX_ok (l : List UInt8) : (sumRdX l).Ok := by
  unfold sumRdX
  split
  · exact rsum_ok _ _ (by have := openL_le l; unfold sumN; omega)
  · exact sumNone_ok
/-- A sector is a summary's if it is just what Write makes of it. -/
def sumOk (l : List UInt8) : Bool := sumRdOk l && (sumB (sumRdX l) && decide (sumS (sumRdX l) = l))
def sumX (l : List UInt8) : Smy := if sumOk l then sumRdX l else sumNone
theorem readSum_no {w w' : World} {l : List UInt8} {e : Ending} (h : sumOk l = false) (he : e = .returned (.tuple #[.agg #[.int .u64 0, .int .u64 0, .bool false, .int .i64 0, .int .u32 0, .slice none 0 0], .int .i64 21])) (hb : Below w.heap.size w w') : RlSum w (sumOk l) (sumX l) e w' := by
  unfold RlSum sumX
  rw [h]
  exact ⟨_, he, own_nilk _ _ _ _, hb⟩
theorem readSum_yes {w w' : World} {l : List UInt8} {e : Ending} {v' : Value} {x : Smy} (h : sumOk l = true) (hx : sumRdX l = x) (he : e = .returned (.tuple #[.agg (x.cells v'), .int .i64 0])) (ho : w'.ownsRow w.heap.size 155 4 v' x.ents.length (rowsOf Ent5.cells x.ents)) (hb : Below w.heap.size w w') : RlSum w (sumOk l) (sumX l) e w' := by
  unfold RlSum sumX
  rw [h, if_pos rfl, if_pos rfl, hx]
  exact ⟨_, he, ho, hb⟩
set_option maxRecDepth 10000 in
set_option maxHeartbeats 8000000 in
theorem readSummary_any (l : List UInt8) (w : World) (hl : l.length = 128) : Calls Try.prog 66 #[secV l] w (RlSum w (sumOk l) (sumX l)) := by
  have HRD : ∀ w', Hid (Calls Try.prog 121 #[.int .u8 3, secV l, .func (.func 74) #[] #[], .func (.func 75) #[] #[]] w' fun e w'' => ∃ v', e = .returned (.tuple #[.agg ((sumRdX l).cells v'), .int .i64 (if sumRdOk l then 0 else 21)]) ∧ w''.ownsRow w'.heap.size 155 4 v' (sumRdX l).ents.length (rowsOf Ent5.cells (sumRdX l).ents) ∧ Below w'.heap.size w' w'') := fun w' => Lib.hid (rds_summary l w' hl)
  have hok2 : sumOk l = (sumRdOk l && (sumB (sumRdX l) && decide (sumS (sumRdX l) = l))) := rfl
  have hxok := sumRdX_ok l
  obtain ⟨x, hx⟩ : ∃ x, sumRdX l = x := ⟨_, rfl⟩
  obtain ⟨ok1, hok1⟩ : ∃ ok1, sumRdOk l = ok1 := ⟨_, rfl⟩
  obtain ⟨ok3, hok3⟩ : ∃ ok3, sumB x = ok3 := ⟨_, rfl⟩
  obtain ⟨m, hm⟩ : ∃ m, sumS x = m := ⟨_, rfl⟩
  simp only [hx, hok1] at HRD hok2 hxok
  have hml : m.length = 128 := by rw [← hm]; exact sumS_length x
  have HWR : ∀ A c w', ReadAt w' A Ent5.cells 4 x.ents → (∀ a, A = some a → a.block < w'.heap.size) → Hid (Calls Try.prog 23 #[.agg (x.cells (.slice A x.ents.length c))] w' fun e w'' => e = .returned (.tuple #[.agg (bvs m).toArray, .int .i64 (if ok3 then 0 else 1)]) ∧ Below w'.heap.size w' w'') := fun A c w' h1 h2 => Lib.hid ((writeSummary_any x hxok A c w' h1 h2).mono fun e w'' h => by
    have h3 := h.1
    rw [sumE_eq, hok3] at h3
    refine ⟨?_, h.2⟩
    rw [h3, ← hm]
    rfl)
  rw [hok3, hm] at hok2
  have HOK := Lib.hid hok2
  have HX := Lib.hid hx
  have hZc : #[.int .u64 0, .int .u64 0, .bool false, .int .i64 0, .int .u32 0, .slice none 0 0] = (sumNone.cells (.slice none 0 0)) := rfl
  have HSZ : Hid ((bvs l).toArray.size = 128) := by unfold Hid; rw [secV_size, hl]
  have HMS : Hid ((bvs m).toArray.size = 128) := by unfold Hid; rw [secV_size, hml]
  have heq : ∀ W : World, (Op.equalIn 10000 36 (.agg (bvs m).toArray) (.agg (bvs l).toArray)).run Try.prog W = .ok (decide (m = l)) W := fun W => equal_sector W m l hml hl
  have hB1 : Below w.heap.size w ((w.alloc (.cells (bvs l).toArray 36 (0, 0))).alloc (.cells #[.int .u64 0, .int .u64 0, .bool false, .int .i64 0, .int .u32 0, .slice none 0 0] 65 (0, 0))) := ((Below.refl _ _).alloc (Nat.le_refl _) _).alloc (by simp) _
  have hG1 := old_heap (heap_alloc_last w (.cells (bvs l).toArray 36 (0, 0))) ((Below.refl _ _).alloc (Nat.le_refl _) (.cells #[.int .u64 0, .int .u64 0, .bool false, .int .i64 0, .int .u32 0, .slice none 0 0] 65 (0, 0)))
  have hT1 := heap_alloc_last (w.alloc (.cells (bvs l).toArray 36 (0, 0))) (.cells #[.int .u64 0, .int .u64 0, .bool false, .int .i64 0, .int .u32 0, .slice none 0 0] 65 (0, 0))
  rw [show (w.alloc (.cells (bvs l).toArray 36 (0, 0))).heap.size = w.heap.size + 1 by simp] at hT1
  have HS1 : Hid (((w.alloc (.cells (bvs l).toArray 36 (0, 0))).alloc (.cells #[.int .u64 0, .int .u64 0, .bool false, .int .i64 0, .int .u32 0, .slice none 0 0] 65 (0, 0))).heap.size = w.heap.size + 1 + 1) := Lib.hid (by simp)
  have HB1 := Lib.hid hB1
  have HG1 := Lib.hid hG1
  have HT1 := Lib.hid hT1
  clear hok2 hxok hx hok1 hok3 hm hml hB1 hG1 hT1 hl hZc
  unfold secV
  go_enter Try.func66, Try.ntmps66
  go_upto_region 1 with fail
  revert HB1 HG1 HT1 HS1
  generalize (w.alloc (.cells (bvs l).toArray 36 (0, 0))).alloc (.cells #[.int .u64 0, .int .u64 0, .bool false, .int .i64 0, .int .u32 0, .slice none 0 0] 65 (0, 0)) = w1
  intro HS1 HB1 HG1 HT1
  unfold secV at HRD
  go_upto_region 2 with (first
    | (refine wpList_load_row rfl 36 (.tmp 1) rfl w.heap.size rfl _ _ _ _ HG1.out Try.underlying36 rfl (by rw [HSZ.out]; exact size_sec) ?_)
    | (go_at_call 121; go_must (refine (HRD _).out.mono ?_; rintro e w2 ⟨v', rfl, ho2, hb2⟩; obtain ⟨s', c', rfl⟩ := own_slice1 ho2; have HO2 := Lib.hid ho2; have HG2 := Lib.hid (old_heap HG1.out hb2); have HT2 := Lib.hid (old_heap HT1.out hb2); have HB2 := Lib.hid (bnext HB1.out hb2); have HZ2 := Lib.hid hb2.size; obtain ⟨V, hV⟩ : ∃ V, x.cells (.slice s' x.ents.length c') = V := ⟨_, rfl⟩; have HVS : Hid (V.size = 6) := (by rw [← hV]; exact rfl); have HV1 : Hid (V.all (·.oneCell') = true) := (by unfold Hid; rw [← hV]; simp [Smy.cells, sumF, Value.oneCell']); have HVE := Lib.hid hV; rw [hV]; clear ho2 hb2 hV))
    | (refine wpList_store_row rfl 65 (.tmp 4) (.tmp 11) rfl w2.heap.size _ V 65 rfl rfl (heap_alloc_last _ _) (by rw [HVS.out]; exact infoSummary) (by rw [HVS.out]; rfl) HV1.out ?_))
  rw [World.setRow_alloc_new]
  have hX3 := heap_alloc_last w2 (.cells V 65 (0, 0))
  have hb3 : Below w2.heap.size w2 (w2.alloc (.cells V 65 (0, 0))) := (Below.refl _ _).alloc (Nat.le_refl _) _
  have hG3 := old_heap HG2.out hb3
  have hT3 := old_heap HT2.out hb3
  have hB3 := bnext HB2.out hb3
  have hO3 := own_below HO2.out hb3
  have hz3 := hb3.size
  have hZ2 := HZ2.out
  clear hb3 HG2 HT2 HB2 HO2 HG1 HT1 HB1 HRD HZ2
  revert hX3 hG3 hT3 hB3 hO3 hz3 hZ2
  generalize w2.alloc (.cells V 65 (0, 0)) = w3
  generalize w2.heap.size = p3
  intro hX3 hG3 hT3 hB3 hO3 hz3 hZ2
  have hR3 : ReadAt w3 s' Ent5.cells 4 x.ents := by
    obtain ⟨A9, c9, e9, -, -, -, h9, -⟩ := own_rows (F := fun _ => False) Ent5.cells_len hO3 rfl (fun _ _ => id)
    injection e9 with e9
    subst e9
    exact h9
  have hA3 : ∀ a, s' = some a → a.block < w3.heap.size := fun a ha => by
    subst ha
    exact own_block_lt hO3 a.block rfl
  have HW3 := HWR s' c' w3 hR3 hA3
  rw [HVE.out] at HW3
  have HX3 := Lib.hid hX3
  have HG3 := Lib.hid hG3
  have HT3 := Lib.hid hT3
  have HB3 := Lib.hid hB3
  have HO3 := Lib.hid hO3
  have HZ3 := Lib.hid (show w.heap.size + 1 + 1 ≤ p3 ∧ p3 ≤ w3.heap.size from ⟨by rw [← HS1.out]; exact hZ2, hz3⟩)
  clear hX3 hG3 hT3 hB3 hO3 hR3 hA3 HWR hz3 hZ2
  go_upto_region 3 with (first
    | (refine wpList_load_row rfl 65 (.tmp 4) rfl p3 rfl _ _ _ _ HX3.out Try.underlying65 rfl (by rw [HVS.out]; exact infoSummary) ?_)
    | (go_at_call 23; go_must (refine HW3.out.mono ?_; rintro e w4 ⟨rfl, hb4⟩; have HO4 := Lib.hid (own_below HO3.out hb4); have HX4 := Lib.hid (old_heap HX3.out hb4); have HG4 := Lib.hid (old_heap HG3.out hb4); have HT4 := Lib.hid (old_heap HT3.out hb4); have HB4 := Lib.hid (bnext HB3.out hb4); have HZ4 := Lib.hid hb4.size; clear hb4))
    | (refine wpList_store_row rfl 36 (.tmp 6) (.tmp 16) rfl w4.heap.size zArr (bvs m).toArray 36 rfl rfl (heap_alloc_last _ _) (by rw [HMS.out]; exact size_sec) (by rw [HMS.out, zArr_size]) (sec_one _) ?_))
  rw [World.setRow_alloc_new]
  have hY5 := heap_alloc_last w4 (.cells (bvs m).toArray 36 (0, 0))
  have hb5 : Below w4.heap.size w4 (w4.alloc (.cells (bvs m).toArray 36 (0, 0))) := (Below.refl _ _).alloc (Nat.le_refl _) _
  have hX5 := old_heap HX4.out hb5
  have hG5 := old_heap HG4.out hb5
  have hT5 := old_heap HT4.out hb5
  have hB5 := bnext HB4.out hb5
  have hO5 := own_below HO4.out hb5
  clear hb5 HX4 HG4 HT4 HB4 HO4 HX3 HG3 HT3 HB3 HO3 HW3
  revert hY5 hX5 hG5 hT5 hB5 hO5
  generalize w4.alloc (.cells (bvs m).toArray 36 (0, 0)) = w5
  generalize w4.heap.size = p5
  intro hY5 hX5 hG5 hT5 hB5 hO5
  have HY5 := Lib.hid hY5
  have HX5 := Lib.hid hX5
  have HG5 := Lib.hid hG5
  have HT5 := Lib.hid hT5
  have HB5 := Lib.hid hB5
  have HO5 := Lib.hid hO5
  clear hY5 hX5 hG5 hT5 hB5 hO5
  cases ok1 with
  | false =>
    have HNO : Hid (sumOk l = false) := Lib.hid (by rw [HOK.out]; rfl)
    clear heq
    go_wp2_with (first
      | (refine wpList_load_row_g rfl 36 (.tmp 6) rfl p5 rfl _ _ _ _ HY5.out Try.underlying36 rfl (by rw [HMS.out]; exact size_sec) ?_)
      | (refine wpList_load_row_g rfl 36 (.tmp 1) rfl w.heap.size rfl _ _ _ _ HG5.out Try.underlying36 rfl (by rw [HSZ.out]; exact size_sec) ?_)
      | (refine wpList_build_at rfl 65 _ rfl [] (by simp) #[.int .u64 0, .int .u64 0, .bool false, .int .i64 0, .int .u32 0, .slice none 0 0] built_sum ?_)
      | (refine wpList_store_row rfl 65 (.tmp 2) (.tmp 29) rfl (w.heap.size + 1) _ #[.int .u64 0, .int .u64 0, .bool false, .int .i64 0, .int .u32 0, .slice none 0 0] 65 rfl rfl HT5.out infoSummary rfl (by simp [Value.oneCell']) ?_)
      | (refine wpList_load_row rfl 65 (.tmp 4) rfl p3 rfl _ _ _ _ HX5.out Try.underlying65 rfl (by rw [HVS.out]; exact infoSummary) ?_)
      | (refine wpList_store_row rfl 65 (.tmp 2) (.tmp 30) rfl (w.heap.size + 1) _ V 65 rfl rfl HT5.out (by rw [HVS.out]; exact infoSummary) (by rw [HVS.out]; rfl) HV1.out ?_))
    all_goals
      have hld := run_loadVar_row (P := Try.prog) (w5.setRow (w.heap.size + 1) #[.int .u64 0, .int .u64 0, .bool false, .int .i64 0, .int .u32 0, .slice none 0 0]) (w.heap.size + 1) 65 65 #[.int .u64 0, .int .u64 0, .bool false, .int .i64 0, .int .u32 0, .slice none 0 0] (0, 0) _ (setRow_heap _ _ _ _ _ _ HT5.out) Try.underlying65 (by simp) infoSummary
      exact bodyPost_ret (v := .tuple #[.agg #[.int .u64 0, .int .u64 0, .bool false, .int .i64 0, .int .u32 0, .slice none 0 0], .int .i64 21]) (results_cell2 Try.results66 rfl rfl hld) rfl (readSum_no HNO.out rfl (below_row HB5.out (by omega)))
  | true =>
    cases ok3 with
    | false =>
      have HNO : Hid (sumOk l = false) := Lib.hid (by rw [HOK.out]; rfl)
      clear heq
      go_wp2_with (first
        | (refine wpList_load_row_g rfl 36 (.tmp 6) rfl p5 rfl _ _ _ _ HY5.out Try.underlying36 rfl (by rw [HMS.out]; exact size_sec) ?_)
        | (refine wpList_load_row_g rfl 36 (.tmp 1) rfl w.heap.size rfl _ _ _ _ HG5.out Try.underlying36 rfl (by rw [HSZ.out]; exact size_sec) ?_)
        | (refine wpList_build_at rfl 65 _ rfl [] (by simp) #[.int .u64 0, .int .u64 0, .bool false, .int .i64 0, .int .u32 0, .slice none 0 0] built_sum ?_)
        | (refine wpList_store_row rfl 65 (.tmp 2) (.tmp 29) rfl (w.heap.size + 1) _ #[.int .u64 0, .int .u64 0, .bool false, .int .i64 0, .int .u32 0, .slice none 0 0] 65 rfl rfl HT5.out infoSummary rfl (by simp [Value.oneCell']) ?_)
        | (refine wpList_load_row rfl 65 (.tmp 4) rfl p3 rfl _ _ _ _ HX5.out Try.underlying65 rfl (by rw [HVS.out]; exact infoSummary) ?_)
        | (refine wpList_store_row rfl 65 (.tmp 2) (.tmp 30) rfl (w.heap.size + 1) _ V 65 rfl rfl HT5.out (by rw [HVS.out]; exact infoSummary) (by rw [HVS.out]; rfl) HV1.out ?_))
      have hld := run_loadVar_row (P := Try.prog) (w5.setRow (w.heap.size + 1) #[.int .u64 0, .int .u64 0, .bool false, .int .i64 0, .int .u32 0, .slice none 0 0]) (w.heap.size + 1) 65 65 #[.int .u64 0, .int .u64 0, .bool false, .int .i64 0, .int .u32 0, .slice none 0 0] (0, 0) _ (setRow_heap _ _ _ _ _ _ HT5.out) Try.underlying65 (by simp) infoSummary
      exact bodyPost_ret (v := .tuple #[.agg #[.int .u64 0, .int .u64 0, .bool false, .int .i64 0, .int .u32 0, .slice none 0 0], .int .i64 21]) (results_cell2 Try.results66 rfl rfl hld) rfl (readSum_no HNO.out rfl (below_row HB5.out (by omega)))
    | true =>
      by_cases hq : m = l
      · have HYES : Hid (sumOk l = true) := Lib.hid (by rw [HOK.out, decide_eq_true hq]; rfl)
        simp only [decide_eq_true hq] at heq
        clear hq
        go_wp2_with (first
          | (refine wpList_load_row_g rfl 36 (.tmp 6) rfl p5 rfl _ _ _ _ HY5.out Try.underlying36 rfl (by rw [HMS.out]; exact size_sec) ?_)
          | (refine wpList_load_row_g rfl 36 (.tmp 1) rfl w.heap.size rfl _ _ _ _ HG5.out Try.underlying36 rfl (by rw [HSZ.out]; exact size_sec) ?_)
          | (refine wpList_build_at rfl 65 _ rfl [] (by simp) #[.int .u64 0, .int .u64 0, .bool false, .int .i64 0, .int .u32 0, .slice none 0 0] built_sum ?_)
          | (refine wpList_store_row rfl 65 (.tmp 2) (.tmp 29) rfl (w.heap.size + 1) _ #[.int .u64 0, .int .u64 0, .bool false, .int .i64 0, .int .u32 0, .slice none 0 0] 65 rfl rfl HT5.out infoSummary rfl (by simp [Value.oneCell']) ?_)
          | (refine wpList_load_row rfl 65 (.tmp 4) rfl p3 rfl _ _ _ _ HX5.out Try.underlying65 rfl (by rw [HVS.out]; exact infoSummary) ?_)
          | (refine wpList_store_row rfl 65 (.tmp 2) (.tmp 30) rfl (w.heap.size + 1) _ V 65 rfl rfl HT5.out (by rw [HVS.out]; exact infoSummary) (by rw [HVS.out]; rfl) HV1.out ?_))
        have hld := run_loadVar_row (P := Try.prog) (w5.setRow (w.heap.size + 1) V) (w.heap.size + 1) 65 65 V (0, 0) _ (setRow_heap _ _ _ _ _ _ HT5.out) Try.underlying65 (by simp) (by rw [HVS.out]; exact infoSummary)
        exact bodyPost_ret (v := .tuple #[.agg V, .int .i64 0]) (results_cell2 Try.results66 rfl rfl hld) rfl (readSum_yes HYES.out HX.out (by rw [HVE.out]) (own_setRow HO5.out (by have := HS1.out; omega) (by have := HS1.out; omega)) (below_row HB5.out (by omega)))
      · have HNO : Hid (sumOk l = false) := Lib.hid (by rw [HOK.out, decide_eq_false hq]; rfl)
        simp only [decide_eq_false hq] at heq
        clear hq
        go_wp2_with (first
          | (refine wpList_load_row_g rfl 36 (.tmp 6) rfl p5 rfl _ _ _ _ HY5.out Try.underlying36 rfl (by rw [HMS.out]; exact size_sec) ?_)
          | (refine wpList_load_row_g rfl 36 (.tmp 1) rfl w.heap.size rfl _ _ _ _ HG5.out Try.underlying36 rfl (by rw [HSZ.out]; exact size_sec) ?_)
          | (refine wpList_build_at rfl 65 _ rfl [] (by simp) #[.int .u64 0, .int .u64 0, .bool false, .int .i64 0, .int .u32 0, .slice none 0 0] built_sum ?_)
          | (refine wpList_store_row rfl 65 (.tmp 2) (.tmp 29) rfl (w.heap.size + 1) _ #[.int .u64 0, .int .u64 0, .bool false, .int .i64 0, .int .u32 0, .slice none 0 0] 65 rfl rfl HT5.out infoSummary rfl (by simp [Value.oneCell']) ?_)
          | (refine wpList_load_row rfl 65 (.tmp 4) rfl p3 rfl _ _ _ _ HX5.out Try.underlying65 rfl (by rw [HVS.out]; exact infoSummary) ?_)
          | (refine wpList_store_row rfl 65 (.tmp 2) (.tmp 30) rfl (w.heap.size + 1) _ V 65 rfl rfl HT5.out (by rw [HVS.out]; exact infoSummary) (by rw [HVS.out]; rfl) HV1.out ?_))
        have hld := run_loadVar_row (P := Try.prog) (w5.setRow (w.heap.size + 1) #[.int .u64 0, .int .u64 0, .bool false, .int .i64 0, .int .u32 0, .slice none 0 0]) (w.heap.size + 1) 65 65 #[.int .u64 0, .int .u64 0, .bool false, .int .i64 0, .int .u32 0, .slice none 0 0] (0, 0) _ (setRow_heap _ _ _ _ _ _ HT5.out) Try.underlying65 (by simp) infoSummary
        exact bodyPost_ret (v := .tuple #[.agg #[.int .u64 0, .int .u64 0, .bool false, .int .i64 0, .int .u32 0, .slice none 0 0], .int .i64 21]) (results_cell2 Try.results66 rfl rfl hld) rfl (readSum_no HNO.out rfl (below_row HB5.out (by omega)))
end Go.Proofs.Ytcpfafmkhegckaa
