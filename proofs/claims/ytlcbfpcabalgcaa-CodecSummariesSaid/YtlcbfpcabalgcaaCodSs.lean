/-
  Codec: Summary's pass, when it writes and when it reads.
-/
import Derived.Test.YtlcbfpcabalgcaaCodSf
import Derived.Test.YtlcbfpcabalgcaaCodE
namespace Go.Proofs.Ytlcbfpcabalgcaa
open Go.RowKit
set_option linter.unusedVariables false
set_option linter.unusedSimpArgs false
set_option linter.unnecessarySimpa false
structure Smy where
  seq : Nat
  first : Nat
  commit : Bool
  next : Int
  time : Nat
  ents : List Ent5
structure Smy.Ok (x : Smy) : Prop where
  seq : x.seq < 2 ^ 64
  first : x.first < 2 ^ 64
  next : I64 x.next
  time : x.time < 2 ^ 32
  ents : ∀ y ∈ x.ents, y.Ok
  len : x.ents.length ≤ 1000
def sumF (seq first : Nat) (commit : Bool) (next : Int) (time : Nat) (v : Value) : Array Value := #[.int .u64 (seq : Int), .int .u64 (first : Int), .bool commit, .int .i64 next, .int .u32 (time : Int), v]
def Smy.head (x : Smy) : List (Nat × Int) := [(8, (x.seq : Int)), (8, (x.first : Int)), (1, flagN x.commit), (1, (x.ents.length : Int)), (2, x.next), (4, (x.time : Int))]
def sumL (x : Smy) : List (Nat × Int) := x.head ++ entryAll x.ents
theorem readAt_old {α : Type} {w w' : World} {base : Nat} {A : Option Addr} {f : α → List Value} {k : Nat} {L : List α} (h : ReadAt w A f k L) (hA : ∀ a, A = some a → a.block < base) (hb : Below base w w') : ReadAt w' A f k L := fun hne => by
  obtain ⟨b, o, rfl, h2⟩ := h hne
  exact ⟨b, o, rfl, fun i x hx j hj => (hb.cell (p := ⟨b, o + i * k + j, none⟩) (show b < base from hA _ rfl)).trans (h2 i x hx j hj)⟩
set_option maxRecDepth 10000 in
set_option maxHeartbeats 8000000 in
theorem pw_summary {w : World} {base g : Nat} {l : List UInt8} {bad : Bool} (x : Smy) (hx : x.Ok) (A : Option Addr) (c pb : Nat) (h : CwAt w base g l bad) (hb : w.heap[pb]? = some (.cells (sumF x.seq x.first x.commit x.next x.time (.slice A x.ents.length c)) 105 (0, 0))) (hR : ReadAt w A Ent5.cells 4 x.ents)
    (hA : ∀ a, A = some a → a.block < base) (hl : l.length ≤ 900) (hbs : base ≤ w.heap.size) (hpb : pb < base) :
    Calls Try.prog 79 #[wV g, .pointer (some ⟨pb, 0, none⟩)] w (CwTo w base g (l ++ fB (sumL x)) (bad || fBad (sumL x))) := by
  obtain ⟨seq, first, commit, next, time, ents⟩ := x
  obtain ⟨r0, r1, r3, r4, rE, rL⟩ := hx
  dsimp only at hb r0 r1 r3 r4 rE rL hR
  have HW0 := Lib.hid h
  have HB0 := Lib.hid (Below.refl base w)
  have HC := Lib.hid hb
  have HR := Lib.hid hR
  have HA := Lib.hid hA
  have HE := Lib.hid rE
  clear h hb hR hA rE
  have na_wide := fun W => na_w ⟨g, 0, none⟩ W "drumlin/codec.wide" (by simp)
  have mt_wide := fun W => mw_wide ⟨g, 0, none⟩ W
  have na_int := fun W => na_w ⟨g, 0, none⟩ W "drumlin/codec.int" (by simp)
  have mt_int := fun W => mw_int ⟨g, 0, none⟩ W
  have na_word := fun W => na_w ⟨g, 0, none⟩ W "drumlin/codec.word" (by simp)
  have mt_word := fun W => mw_word ⟨g, 0, none⟩ W
  have hRX : ∀ w', Below base w w' → ReadAt w' A Ent5.cells 4 ents := fun w' hb => readAt_old HR.out HA.out hb
  unfold wV
  go_enter Try.func79, Try.ntmps79
  go_upto_region 0 with fail
  have HC0 := Lib.hid (cw_wide 8 seq pb 0 (HW0.out.below (Below.refl _ w).drew) (by decide) r0 (cell_row ((HB0.out.drew.block pb hpb).trans HC.out) 0) (by (try simp only [List.length_append, wB_len, fB_len, List.map_cons, List.map_nil, List.sum_cons, List.sum_nil]); omega) (Nat.le_trans hbs HB0.out.size))
  unfold CwTo at HC0
  refine wp_region_held_drew (S := (fun w' => Below base w w')) (by kernel_rfl) (by exact HB0.out.drew) (fun hHeld => ?_)
  refine take1_ (i := 0) (v := ?_) (a' := ?_) (some 5) #[true, false, false, false, false, false, false, false] rfl rfl (by kernel_rfl) (fun _ _ _ h => h) (Or.inl ⟨by rfl, ?_⟩) hHeld ?_ ?_
  rotate_left
  · (intro w hSw; (try dsimp only at hSw); go_simp; (try with_reducible rfl))
  rotate_left
  · simp only [Act.put, List.setIfInBounds_toArray, List.set_cons_zero, List.set_cons_succ]
    rfl
  refine take1_ (i := 1) (v := ?_) (a' := ?_) (some 6) #[true, true, false, false, false, false, false, false] rfl rfl (by kernel_rfl) (fun _ _ _ h => h) (Or.inl ⟨by rfl, ?_⟩) hHeld ?_ ?_
  rotate_left
  · (intro w hSw; (try dsimp only at hSw); go_simp; (try with_reducible rfl))
  rotate_left
  · simp only [Act.put, List.setIfInBounds_toArray, List.set_cons_zero, List.set_cons_succ]
    rfl
  refine take1_ (i := 2) (v := ?_) (a' := ?_) (some 7) #[true, true, true, false, false, false, false, false] rfl rfl (by kernel_rfl) (fun _ _ _ h => h) (Or.inl ⟨by rfl, ?_⟩) hHeld ?_ ?_
  rotate_left
  · (intro w hSw; (try dsimp only at hSw); go_simp; (try with_reducible rfl))
  rotate_left
  · simp only [Act.put, List.setIfInBounds_toArray, List.set_cons_zero, List.set_cons_succ]
    rfl
  refine take1_ (i := 3) (v := ?_) (a' := ?_) (some 8) #[true, true, true, true, false, false, false, false] rfl rfl (by kernel_rfl) (fun _ _ _ h => h) (Or.inl ⟨by rfl, ?_⟩) hHeld ?_ ?_
  rotate_left
  · (intro w hSw; (try dsimp only at hSw); go_simp; (try with_reducible rfl))
  rotate_left
  · simp only [Act.put, List.setIfInBounds_toArray, List.set_cons_zero, List.set_cons_succ]
    rfl
  refine take1_ (i := 4) (v := ?_) (a' := ?_) (some 9) #[true, true, true, true, true, false, false, false] rfl rfl (by kernel_rfl) (fun _ _ _ h => h) (Or.inl ⟨by rfl, ?_⟩) hHeld ?_ ?_
  rotate_left
  · (intro w hSw; (try dsimp only at hSw); go_simp; (try with_reducible rfl))
  rotate_left
  · simp only [Act.put, List.setIfInBounds_toArray, List.set_cons_zero, List.set_cons_succ]
    rfl
  refine take1_ (i := 5) (v := ?_) (a' := ?_) (some 10) #[true, true, true, true, true, true, false, false] rfl rfl (by kernel_rfl) (fun _ _ _ h => h) (Or.inl ⟨by rfl, ?_⟩) hHeld ?_ ?_
  rotate_left
  · (intro w hSw; (try dsimp only at hSw); go_simp; (try with_reducible rfl))
  rotate_left
  · simp only [Act.put, List.setIfInBounds_toArray, List.set_cons_zero, List.set_cons_succ]
    rfl
  refine take1_ (i := 6) (v := ?_) (a' := ?_) (some 11) #[true, true, true, true, true, true, true, false] rfl rfl (by kernel_rfl) (fun _ _ _ h => h) (Or.inl ⟨by rfl, ?_⟩) hHeld ?_ ?_
  rotate_left
  · (intro w hSw; (try dsimp only at hSw); go_simp; (try with_reducible rfl))
  rotate_left
  · simp only [Act.put, List.setIfInBounds_toArray, List.set_cons_zero, List.set_cons_succ]
    rfl
  refine loud1_ (i := 7) (some 12) #[true, true, true, true, true, true, true, true] rfl rfl (by kernel_rfl) (fun K hK => ?_)
  go_simp
  (go_at_call 130; refine HC0.out.mono ?_; rintro e w1 ⟨rfl, hcw, hbw⟩; have HW1 := Lib.hid hcw; have HB1 := Lib.hid (HB0.out.drew.trans hbw); have hnx := HB1.out; clear hcw hbw)
  refine hK.out _ _ (by exact hnx) (fun hHeld' => ?_)
  clear hK K hHeld
  have hHeld := hHeld'
  clear hHeld'
  try simp only [Act.put, List.setIfInBounds_toArray, List.set_cons_zero, List.set_cons_succ]
  refine wpAnyH_done (by kernel_rfl) ?_ _
  clear hHeld hnx HC0 HW0
  go_upto_region 1 with fail
  have HC1 := Lib.hid (cw_wide 8 first pb 1 (HW1.out.below (Below.refl _ w1).drew) (by decide) r1 (cell_row ((HB1.out.drew.block pb hpb).trans HC.out) 1) (by (try simp only [List.length_append, wB_len, fB_len, List.map_cons, List.map_nil, List.sum_cons, List.sum_nil]); omega) (Nat.le_trans hbs HB1.out.size))
  unfold CwTo at HC1
  refine wp_region_held_drew (S := (fun w' => Below base w w')) (by kernel_rfl) (by exact HB1.out.drew) (fun hHeld => ?_)
  refine take1_ (i := 0) (v := ?_) (a' := ?_) (some 13) #[true, false, false, false, false, false, false, false] rfl rfl (by kernel_rfl) (fun _ _ _ h => h) (Or.inl ⟨by rfl, ?_⟩) hHeld ?_ ?_
  rotate_left
  · (intro w hSw; (try dsimp only at hSw); go_simp; (try with_reducible rfl))
  rotate_left
  · simp only [Act.put, List.setIfInBounds_toArray, List.set_cons_zero, List.set_cons_succ]
    rfl
  refine take1_ (i := 1) (v := ?_) (a' := ?_) (some 14) #[true, true, false, false, false, false, false, false] rfl rfl (by kernel_rfl) (fun _ _ _ h => h) (Or.inl ⟨by rfl, ?_⟩) hHeld ?_ ?_
  rotate_left
  · (intro w hSw; (try dsimp only at hSw); go_simp; (try with_reducible rfl))
  rotate_left
  · simp only [Act.put, List.setIfInBounds_toArray, List.set_cons_zero, List.set_cons_succ]
    rfl
  refine take1_ (i := 2) (v := ?_) (a' := ?_) (some 15) #[true, true, true, false, false, false, false, false] rfl rfl (by kernel_rfl) (fun _ _ _ h => h) (Or.inl ⟨by rfl, ?_⟩) hHeld ?_ ?_
  rotate_left
  · (intro w hSw; (try dsimp only at hSw); go_simp; (try with_reducible rfl))
  rotate_left
  · simp only [Act.put, List.setIfInBounds_toArray, List.set_cons_zero, List.set_cons_succ]
    rfl
  refine take1_ (i := 3) (v := ?_) (a' := ?_) (some 16) #[true, true, true, true, false, false, false, false] rfl rfl (by kernel_rfl) (fun _ _ _ h => h) (Or.inl ⟨by rfl, ?_⟩) hHeld ?_ ?_
  rotate_left
  · (intro w hSw; (try dsimp only at hSw); go_simp; (try with_reducible rfl))
  rotate_left
  · simp only [Act.put, List.setIfInBounds_toArray, List.set_cons_zero, List.set_cons_succ]
    rfl
  refine take1_ (i := 4) (v := ?_) (a' := ?_) (some 17) #[true, true, true, true, true, false, false, false] rfl rfl (by kernel_rfl) (fun _ _ _ h => h) (Or.inl ⟨by rfl, ?_⟩) hHeld ?_ ?_
  rotate_left
  · (intro w hSw; (try dsimp only at hSw); go_simp; (try with_reducible rfl))
  rotate_left
  · simp only [Act.put, List.setIfInBounds_toArray, List.set_cons_zero, List.set_cons_succ]
    rfl
  refine take1_ (i := 5) (v := ?_) (a' := ?_) (some 18) #[true, true, true, true, true, true, false, false] rfl rfl (by kernel_rfl) (fun _ _ _ h => h) (Or.inl ⟨by rfl, ?_⟩) hHeld ?_ ?_
  rotate_left
  · (intro w hSw; (try dsimp only at hSw); go_simp; (try with_reducible rfl))
  rotate_left
  · simp only [Act.put, List.setIfInBounds_toArray, List.set_cons_zero, List.set_cons_succ]
    rfl
  refine take1_ (i := 6) (v := ?_) (a' := ?_) (some 19) #[true, true, true, true, true, true, true, false] rfl rfl (by kernel_rfl) (fun _ _ _ h => h) (Or.inl ⟨by rfl, ?_⟩) hHeld ?_ ?_
  rotate_left
  · (intro w hSw; (try dsimp only at hSw); go_simp; (try with_reducible rfl))
  rotate_left
  · simp only [Act.put, List.setIfInBounds_toArray, List.set_cons_zero, List.set_cons_succ]
    rfl
  refine loud1_ (i := 7) (some 20) #[true, true, true, true, true, true, true, true] rfl rfl (by kernel_rfl) (fun K hK => ?_)
  go_simp
  (go_at_call 130; refine HC1.out.mono ?_; rintro e w2 ⟨rfl, hcw, hbw⟩; have HW2 := Lib.hid hcw; have HB2 := Lib.hid (HB1.out.drew.trans hbw); have hnx := HB2.out; clear hcw hbw)
  refine hK.out _ _ (by exact hnx) (fun hHeld' => ?_)
  clear hK K hHeld
  have hHeld := hHeld'
  clear hHeld'
  try simp only [Act.put, List.setIfInBounds_toArray, List.set_cons_zero, List.set_cons_succ]
  refine wpAnyH_done (by kernel_rfl) ?_ _
  clear hHeld hnx HC1 HW1
  have HF2 := Lib.hid (pw_flag commit pb 2 _ _ HW2.out ((HB2.out.block pb hpb).trans HC.out) rfl (by (try simp only [List.length_append, wB_len, fB_len, List.map_cons, List.map_nil, List.sum_cons, List.sum_nil]); omega) (Nat.le_trans hbs HB2.out.size) hpb)
  unfold CwTo wV at HF2
  have cs2 := cell_row ((HB2.out.block pb hpb).trans HC.out) 5
  go_upto_region 3 with (go_at_call 99; go_must (refine HF2.out.mono ?_; rintro e w3 ⟨rfl, hcw, hbw⟩; have HW3 := Lib.hid hcw; have HB3 := Lib.hid (HB2.out.trans hbw); clear hcw hbw))
  clear HF2 HW2 cs2
  have cs3 : w3.cell? ⟨pb, 5, none⟩ = some (.slice A ents.length c) := cell_row ((HB3.out.block pb hpb).trans HC.out) 5
  go_upto_region 4 with fail
  have hal : Below w3.heap.size w3 (w3.alloc (.cells #[.int .i64 (ents.length : Int)] 3 (0, 0))) := (Below.refl _ _).alloc (Nat.le_refl _) _
  have hn := heap_alloc_last w3 (.cells #[.int .i64 (ents.length : Int)] 3 (0, 0))
  have hsz : (w3.alloc (.cells #[.int .i64 (ents.length : Int)] 3 (0, 0))).heap.size = w3.heap.size + 1 := by simp
  have hbl := HB3.out.size
  revert hal hn hsz
  generalize w3.alloc (.cells #[.int .i64 (ents.length : Int)] 3 (0, 0)) = w3n
  intro hal hn hsz
  have HC3 := Lib.hid (cw_int 1 (ents.length : Int) w3.heap.size 0 (HW3.out.below hal) (by decide) (by omega) (cell_row hn 0) (by (try simp only [List.length_append, wB_len, fB_len, List.map_cons, List.map_nil, List.sum_cons, List.sum_nil]); omega) (by omega))
  unfold CwTo at HC3
  have HAL := Lib.hid hal
  clear hal hn HW3 cs3
  go_upto_region 5 with (go_at_call 128; go_must (refine HC3.out.mono ?_; rintro e w4 ⟨rfl, hcw, hbw⟩; have HW4 := Lib.hid hcw; have HB4 := Lib.hid (HB3.out.trans ((HAL.out.mono (by omega)).trans hbw)); clear hcw hbw))
  clear HC3
  have HC4 := Lib.hid (cw_int 2 next pb 3 (HW4.out.below (Below.refl _ w4).drew) (by decide) r3 (cell_row ((HB4.out.drew.block pb hpb).trans HC.out) 3) (by (try simp only [List.length_append, wB_len, fB_len, List.map_cons, List.map_nil, List.sum_cons, List.sum_nil]); omega) (Nat.le_trans hbs HB4.out.size))
  unfold CwTo at HC4
  refine wp_region_held_drew (S := (fun w' => Below base w w')) (by kernel_rfl) (by exact HB4.out.drew) (fun hHeld => ?_)
  refine take1_ (i := 0) (v := ?_) (a' := ?_) (some 33) #[true, false, false, false, false, false, false, false] rfl rfl (by kernel_rfl) (fun _ _ _ h => h) (Or.inl ⟨by rfl, ?_⟩) hHeld ?_ ?_
  rotate_left
  · (intro w hSw; (try dsimp only at hSw); go_simp; (try with_reducible rfl))
  rotate_left
  · simp only [Act.put, List.setIfInBounds_toArray, List.set_cons_zero, List.set_cons_succ]
    rfl
  refine take1_ (i := 1) (v := ?_) (a' := ?_) (some 34) #[true, true, false, false, false, false, false, false] rfl rfl (by kernel_rfl) (fun _ _ _ h => h) (Or.inl ⟨by rfl, ?_⟩) hHeld ?_ ?_
  rotate_left
  · (intro w hSw; (try dsimp only at hSw); go_simp; (try with_reducible rfl))
  rotate_left
  · simp only [Act.put, List.setIfInBounds_toArray, List.set_cons_zero, List.set_cons_succ]
    rfl
  refine take1_ (i := 2) (v := ?_) (a' := ?_) (some 35) #[true, true, true, false, false, false, false, false] rfl rfl (by kernel_rfl) (fun _ _ _ h => h) (Or.inl ⟨by rfl, ?_⟩) hHeld ?_ ?_
  rotate_left
  · (intro w hSw; (try dsimp only at hSw); go_simp; (try with_reducible rfl))
  rotate_left
  · simp only [Act.put, List.setIfInBounds_toArray, List.set_cons_zero, List.set_cons_succ]
    rfl
  refine take1_ (i := 3) (v := ?_) (a' := ?_) (some 36) #[true, true, true, true, false, false, false, false] rfl rfl (by kernel_rfl) (fun _ _ _ h => h) (Or.inl ⟨by rfl, ?_⟩) hHeld ?_ ?_
  rotate_left
  · (intro w hSw; (try dsimp only at hSw); go_simp; (try with_reducible rfl))
  rotate_left
  · simp only [Act.put, List.setIfInBounds_toArray, List.set_cons_zero, List.set_cons_succ]
    rfl
  refine take1_ (i := 4) (v := ?_) (a' := ?_) (some 37) #[true, true, true, true, true, false, false, false] rfl rfl (by kernel_rfl) (fun _ _ _ h => h) (Or.inl ⟨by rfl, ?_⟩) hHeld ?_ ?_
  rotate_left
  · (intro w hSw; (try dsimp only at hSw); go_simp; (try with_reducible rfl))
  rotate_left
  · simp only [Act.put, List.setIfInBounds_toArray, List.set_cons_zero, List.set_cons_succ]
    rfl
  refine take1_ (i := 5) (v := ?_) (a' := ?_) (some 38) #[true, true, true, true, true, true, false, false] rfl rfl (by kernel_rfl) (fun _ _ _ h => h) (Or.inl ⟨by rfl, ?_⟩) hHeld ?_ ?_
  rotate_left
  · (intro w hSw; (try dsimp only at hSw); go_simp; (try with_reducible rfl))
  rotate_left
  · simp only [Act.put, List.setIfInBounds_toArray, List.set_cons_zero, List.set_cons_succ]
    rfl
  refine take1_ (i := 6) (v := ?_) (a' := ?_) (some 39) #[true, true, true, true, true, true, true, false] rfl rfl (by kernel_rfl) (fun _ _ _ h => h) (Or.inl ⟨by rfl, ?_⟩) hHeld ?_ ?_
  rotate_left
  · (intro w hSw; (try dsimp only at hSw); go_simp; (try with_reducible rfl))
  rotate_left
  · simp only [Act.put, List.setIfInBounds_toArray, List.set_cons_zero, List.set_cons_succ]
    rfl
  refine loud1_ (i := 7) (some 40) #[true, true, true, true, true, true, true, true] rfl rfl (by kernel_rfl) (fun K hK => ?_)
  go_simp
  (go_at_call 128; refine HC4.out.mono ?_; rintro e w5 ⟨rfl, hcw, hbw⟩; have HW5 := Lib.hid hcw; have HB5 := Lib.hid (HB4.out.drew.trans hbw); have hnx := HB5.out; clear hcw hbw)
  refine hK.out _ _ (by exact hnx) (fun hHeld' => ?_)
  clear hK K hHeld
  have hHeld := hHeld'
  clear hHeld'
  try simp only [Act.put, List.setIfInBounds_toArray, List.set_cons_zero, List.set_cons_succ]
  refine wpAnyH_done (by kernel_rfl) ?_ _
  clear hHeld hnx HC4 HW4
  go_upto_region 6 with fail
  have HC5 := Lib.hid (cw_word 4 time pb 4 (HW5.out.below (Below.refl _ w5).drew) (by decide) r4 (cell_row ((HB5.out.drew.block pb hpb).trans HC.out) 4) (by (try simp only [List.length_append, wB_len, fB_len, List.map_cons, List.map_nil, List.sum_cons, List.sum_nil]); omega) (Nat.le_trans hbs HB5.out.size))
  unfold CwTo at HC5
  refine wp_region_held_drew (S := (fun w' => Below base w w')) (by kernel_rfl) (by exact HB5.out.drew) (fun hHeld => ?_)
  refine take1_ (i := 0) (v := ?_) (a' := ?_) (some 41) #[true, false, false, false, false, false, false, false] rfl rfl (by kernel_rfl) (fun _ _ _ h => h) (Or.inl ⟨by rfl, ?_⟩) hHeld ?_ ?_
  rotate_left
  · (intro w hSw; (try dsimp only at hSw); go_simp; (try with_reducible rfl))
  rotate_left
  · simp only [Act.put, List.setIfInBounds_toArray, List.set_cons_zero, List.set_cons_succ]
    rfl
  refine take1_ (i := 1) (v := ?_) (a' := ?_) (some 42) #[true, true, false, false, false, false, false, false] rfl rfl (by kernel_rfl) (fun _ _ _ h => h) (Or.inl ⟨by rfl, ?_⟩) hHeld ?_ ?_
  rotate_left
  · (intro w hSw; (try dsimp only at hSw); go_simp; (try with_reducible rfl))
  rotate_left
  · simp only [Act.put, List.setIfInBounds_toArray, List.set_cons_zero, List.set_cons_succ]
    rfl
  refine take1_ (i := 2) (v := ?_) (a' := ?_) (some 43) #[true, true, true, false, false, false, false, false] rfl rfl (by kernel_rfl) (fun _ _ _ h => h) (Or.inl ⟨by rfl, ?_⟩) hHeld ?_ ?_
  rotate_left
  · (intro w hSw; (try dsimp only at hSw); go_simp; (try with_reducible rfl))
  rotate_left
  · simp only [Act.put, List.setIfInBounds_toArray, List.set_cons_zero, List.set_cons_succ]
    rfl
  refine take1_ (i := 3) (v := ?_) (a' := ?_) (some 44) #[true, true, true, true, false, false, false, false] rfl rfl (by kernel_rfl) (fun _ _ _ h => h) (Or.inl ⟨by rfl, ?_⟩) hHeld ?_ ?_
  rotate_left
  · (intro w hSw; (try dsimp only at hSw); go_simp; (try with_reducible rfl))
  rotate_left
  · simp only [Act.put, List.setIfInBounds_toArray, List.set_cons_zero, List.set_cons_succ]
    rfl
  refine take1_ (i := 4) (v := ?_) (a' := ?_) (some 45) #[true, true, true, true, true, false, false, false] rfl rfl (by kernel_rfl) (fun _ _ _ h => h) (Or.inl ⟨by rfl, ?_⟩) hHeld ?_ ?_
  rotate_left
  · (intro w hSw; (try dsimp only at hSw); go_simp; (try with_reducible rfl))
  rotate_left
  · simp only [Act.put, List.setIfInBounds_toArray, List.set_cons_zero, List.set_cons_succ]
    rfl
  refine take1_ (i := 5) (v := ?_) (a' := ?_) (some 46) #[true, true, true, true, true, true, false, false] rfl rfl (by kernel_rfl) (fun _ _ _ h => h) (Or.inl ⟨by rfl, ?_⟩) hHeld ?_ ?_
  rotate_left
  · (intro w hSw; (try dsimp only at hSw); go_simp; (try with_reducible rfl))
  rotate_left
  · simp only [Act.put, List.setIfInBounds_toArray, List.set_cons_zero, List.set_cons_succ]
    rfl
  refine take1_ (i := 6) (v := ?_) (a' := ?_) (some 47) #[true, true, true, true, true, true, true, false] rfl rfl (by kernel_rfl) (fun _ _ _ h => h) (Or.inl ⟨by rfl, ?_⟩) hHeld ?_ ?_
  rotate_left
  · (intro w hSw; (try dsimp only at hSw); go_simp; (try with_reducible rfl))
  rotate_left
  · simp only [Act.put, List.setIfInBounds_toArray, List.set_cons_zero, List.set_cons_succ]
    rfl
  refine loud1_ (i := 7) (some 48) #[true, true, true, true, true, true, true, true] rfl rfl (by kernel_rfl) (fun K hK => ?_)
  go_simp
  (go_at_call 131; refine HC5.out.mono ?_; rintro e w6 ⟨rfl, hcw, hbw⟩; have HW6 := Lib.hid hcw; have HB6 := Lib.hid (HB5.out.drew.trans hbw); have hnx := HB6.out; clear hcw hbw)
  refine hK.out _ _ (by exact hnx) (fun hHeld' => ?_)
  clear hK K hHeld
  have hHeld := hHeld'
  clear hHeld'
  try simp only [Act.put, List.setIfInBounds_toArray, List.set_cons_zero, List.set_cons_succ]
  refine wpAnyH_done (by kernel_rfl) ?_ _
  clear hHeld hnx HC5 HW5
  have HL6 := Lib.hid (lw_entry ents A c pb 5 HW6.out (cell_row ((HB6.out.block pb hpb).trans HC.out) 5) (hRX w6 HB6.out) HA.out hpb HE.out (by (try simp only [List.length_append, wB_len, fB_len, List.map_cons, List.map_nil, List.sum_cons, List.sum_nil]); omega) rL (Nat.le_trans hbs HB6.out.size))
  unfold CwTo wV at HL6
  go_wp2_with (go_at_call 100; go_must (refine HL6.out.mono ?_; rintro e w7 ⟨rfl, hcw, hbw⟩; have HW7 := Lib.hid hcw; have HB7 := Lib.hid (HB6.out.trans hbw); clear hcw hbw))
  go_end0
  have hE : l ++ fB (sumL ⟨seq, first, commit, next, time, ents⟩) = ((((((l ++ wB 8 seq) ++ wB 8 first) ++ fB [(1, flagN commit)]) ++ wB 1 (ents.length : Int).toNat) ++ wB 2 next.toNat) ++ wB 4 time) ++ fB (entryAll ents) := by simp [sumL, Smy.head, fB, List.append_assoc]
  have hF : (bad || fBad (sumL ⟨seq, first, commit, next, time, ents⟩)) = (((((((((bad || !fitB 8 seq) || !fitB 8 first) || fBad [(1, flagN commit)]) || decide ((ents.length : Int) < 0)) || !fitB 1 (ents.length : Int).toNat) || decide (next < 0)) || !fitB 2 next.toNat) || !fitB 4 time) || fBad (entryAll ents)) := by
    unfold sumL; rw [fBad_append]; simp [Smy.head, fBad, Bool.or_assoc, nat_neg]
  rw [hE, hF]
  exact ⟨rfl, HW7.out, HB7.out⟩
def rsum (l : List UInt8) (J : Nat) : Smy := ⟨rN l 0 8, rN l 8 8, decide (rN l 16 1 = 1), (rN l 18 2 : Int), rN l 20 4, entrys l 24 J⟩
/-- What a reading leaves. -/
structure LrSum (w : World) (g : Nat) (v : Value) (l : List UInt8) (pb : Nat) (v' : Value) (J : Nat) (w' : World) : Prop where
  form : CrAt w' g v l (24 + J * 9) (decide (l.length < 24 + J * 9))
  cell : w'.heap[pb]? = some (.cells (sumF (rN l 0 8) (rN l 8 8) (decide (rN l 16 1 = 1)) (rN l 18 2 : Int) (rN l 20 4) v') 105 (0, 0))
  own : w'.ownsRow w.heap.size 163 4 v' J (rowsOf Ent5.cells (entrys l 24 J))
  keep : Keep (fun b => b = g ∨ b = pb) w w'
set_option maxRecDepth 10000 in
set_option maxHeartbeats 8000000 in
theorem pr_summary {w : World} {g : Nat} {v : Value} {l : List UInt8} (pb : Nat) (h : CrAt w g v l 0 false) (hl : l.length ≤ 255) (hb : w.heap[pb]? = some (.cells (sumF 0 0 false 0 0 (.slice none 0 0)) 105 (0, 0))) (hpg : pb ≠ g) (hv : Apart (· = pb) v l) :
    Calls Try.prog 79 #[rV g, .pointer (some ⟨pb, 0, none⟩)] w fun e w' => ∃ v' J, e = .returned (.tuple #[]) ∧ LrSum w g v l pb v' J w' ∧ l.length ≤ 24 + J * 9 ∧ (J = 0 ∨ 24 + (J - 1) * 9 < l.length) := by
  have HC0 := Lib.hid (CrPass.mk h hb (Keep.refl _ w))
  clear h hb
  have na_wide := fun W => na_r ⟨g, 0, none⟩ W "drumlin/codec.wide" (by simp)
  have mt_wide := fun W => mr_wide ⟨g, 0, none⟩ W
  have na_int := fun W => na_r ⟨g, 0, none⟩ W "drumlin/codec.int" (by simp)
  have mt_int := fun W => mr_int ⟨g, 0, none⟩ W
  have na_word := fun W => na_r ⟨g, 0, none⟩ W "drumlin/codec.word" (by simp)
  have mt_word := fun W => mr_word ⟨g, 0, none⟩ W
  have hl2 : l.length ≤ 1000 := by omega
  unfold rV
  go_enter Try.func79, Try.ntmps79
  go_upto_region 0 with fail
  have HD := Lib.hid HC0.out.drew
  have HN := Lib.hid (cr_wide 8 pb 0 _ 105 0 HD.out.form (by decide) (by omega) hl2 HD.out.cell (by simp [sumF]) hpg hv)
  refine wp_region_held_drew (S := (fun w' => True)) (by kernel_rfl) (by trivial) (fun hHeld => ?_)
  refine take1_ (i := 0) (v := ?_) (a' := ?_) (some 5) #[true, false, false, false, false, false, false, false] rfl rfl (by kernel_rfl) (fun _ _ _ h => h) (Or.inl ⟨by rfl, ?_⟩) hHeld ?_ ?_
  rotate_left
  · (intro w hSw; (try dsimp only at hSw); go_simp; (try with_reducible rfl))
  rotate_left
  · simp only [Act.put, List.setIfInBounds_toArray, List.set_cons_zero, List.set_cons_succ]
    rfl
  refine take1_ (i := 1) (v := ?_) (a' := ?_) (some 6) #[true, true, false, false, false, false, false, false] rfl rfl (by kernel_rfl) (fun _ _ _ h => h) (Or.inl ⟨by rfl, ?_⟩) hHeld ?_ ?_
  rotate_left
  · (intro w hSw; (try dsimp only at hSw); go_simp; (try with_reducible rfl))
  rotate_left
  · simp only [Act.put, List.setIfInBounds_toArray, List.set_cons_zero, List.set_cons_succ]
    rfl
  refine take1_ (i := 2) (v := ?_) (a' := ?_) (some 7) #[true, true, true, false, false, false, false, false] rfl rfl (by kernel_rfl) (fun _ _ _ h => h) (Or.inl ⟨by rfl, ?_⟩) hHeld ?_ ?_
  rotate_left
  · (intro w hSw; (try dsimp only at hSw); go_simp; (try with_reducible rfl))
  rotate_left
  · simp only [Act.put, List.setIfInBounds_toArray, List.set_cons_zero, List.set_cons_succ]
    rfl
  refine take1_ (i := 3) (v := ?_) (a' := ?_) (some 8) #[true, true, true, true, false, false, false, false] rfl rfl (by kernel_rfl) (fun _ _ _ h => h) (Or.inl ⟨by rfl, ?_⟩) hHeld ?_ ?_
  rotate_left
  · (intro w hSw; (try dsimp only at hSw); go_simp; (try with_reducible rfl))
  rotate_left
  · simp only [Act.put, List.setIfInBounds_toArray, List.set_cons_zero, List.set_cons_succ]
    rfl
  refine take1_ (i := 4) (v := ?_) (a' := ?_) (some 9) #[true, true, true, true, true, false, false, false] rfl rfl (by kernel_rfl) (fun _ _ _ h => h) (Or.inl ⟨by rfl, ?_⟩) hHeld ?_ ?_
  rotate_left
  · (intro w hSw; (try dsimp only at hSw); go_simp; (try with_reducible rfl))
  rotate_left
  · simp only [Act.put, List.setIfInBounds_toArray, List.set_cons_zero, List.set_cons_succ]
    rfl
  refine take1_ (i := 5) (v := ?_) (a' := ?_) (some 10) #[true, true, true, true, true, true, false, false] rfl rfl (by kernel_rfl) (fun _ _ _ h => h) (Or.inl ⟨by rfl, ?_⟩) hHeld ?_ ?_
  rotate_left
  · (intro w hSw; (try dsimp only at hSw); go_simp; (try with_reducible rfl))
  rotate_left
  · simp only [Act.put, List.setIfInBounds_toArray, List.set_cons_zero, List.set_cons_succ]
    rfl
  refine take1_ (i := 6) (v := ?_) (a' := ?_) (some 11) #[true, true, true, true, true, true, true, false] rfl rfl (by kernel_rfl) (fun _ _ _ h => h) (Or.inl ⟨by rfl, ?_⟩) hHeld ?_ ?_
  rotate_left
  · (intro w hSw; (try dsimp only at hSw); go_simp; (try with_reducible rfl))
  rotate_left
  · simp only [Act.put, List.setIfInBounds_toArray, List.set_cons_zero, List.set_cons_succ]
    rfl
  refine loud1_ (i := 7) (some 12) #[true, true, true, true, true, true, true, true] rfl rfl (by kernel_rfl) (fun K hK => ?_)
  go_simp
  (go_at_call 134; refine HN.out.mono ?_; rintro e w1 ⟨rfl, hct⟩; have HCn := Lib.hid (HD.out.next hct); clear hct)
  refine hK.out _ _ (by trivial) (fun hHeld' => ?_)
  clear hK K hHeld
  have hHeld := hHeld'
  clear hHeld'
  try simp only [Act.put, List.setIfInBounds_toArray, List.set_cons_zero, List.set_cons_succ]
  refine wpAnyH_done (by kernel_rfl) ?_ _
  clear hHeld HN HD HC0
  have HC1 : Hid (CrPass w g v l 8 (decide (l.length < 8)) pb (sumF (rN l 0 8) 0 false 0 0 (.slice none 0 0)) 105 w1) := Lib.hid (by
    have := HCn.out
    rw [show (false || !rOk l 0 8) = decide (l.length < 0 + 8) from bad_next l 0 8 (by decide)] at this
    simpa [sumF] using this)
  clear HCn
  go_upto_region 1 with fail
  have HD := Lib.hid HC1.out.drew
  have HN := Lib.hid (cr_wide 8 pb 1 _ 105 0 HD.out.form (by decide) (by omega) hl2 HD.out.cell (by simp [sumF]) hpg hv)
  refine wp_region_held_drew (S := (fun w' => True)) (by kernel_rfl) (by trivial) (fun hHeld => ?_)
  refine take1_ (i := 0) (v := ?_) (a' := ?_) (some 13) #[true, false, false, false, false, false, false, false] rfl rfl (by kernel_rfl) (fun _ _ _ h => h) (Or.inl ⟨by rfl, ?_⟩) hHeld ?_ ?_
  rotate_left
  · (intro w hSw; (try dsimp only at hSw); go_simp; (try with_reducible rfl))
  rotate_left
  · simp only [Act.put, List.setIfInBounds_toArray, List.set_cons_zero, List.set_cons_succ]
    rfl
  refine take1_ (i := 1) (v := ?_) (a' := ?_) (some 14) #[true, true, false, false, false, false, false, false] rfl rfl (by kernel_rfl) (fun _ _ _ h => h) (Or.inl ⟨by rfl, ?_⟩) hHeld ?_ ?_
  rotate_left
  · (intro w hSw; (try dsimp only at hSw); go_simp; (try with_reducible rfl))
  rotate_left
  · simp only [Act.put, List.setIfInBounds_toArray, List.set_cons_zero, List.set_cons_succ]
    rfl
  refine take1_ (i := 2) (v := ?_) (a' := ?_) (some 15) #[true, true, true, false, false, false, false, false] rfl rfl (by kernel_rfl) (fun _ _ _ h => h) (Or.inl ⟨by rfl, ?_⟩) hHeld ?_ ?_
  rotate_left
  · (intro w hSw; (try dsimp only at hSw); go_simp; (try with_reducible rfl))
  rotate_left
  · simp only [Act.put, List.setIfInBounds_toArray, List.set_cons_zero, List.set_cons_succ]
    rfl
  refine take1_ (i := 3) (v := ?_) (a' := ?_) (some 16) #[true, true, true, true, false, false, false, false] rfl rfl (by kernel_rfl) (fun _ _ _ h => h) (Or.inl ⟨by rfl, ?_⟩) hHeld ?_ ?_
  rotate_left
  · (intro w hSw; (try dsimp only at hSw); go_simp; (try with_reducible rfl))
  rotate_left
  · simp only [Act.put, List.setIfInBounds_toArray, List.set_cons_zero, List.set_cons_succ]
    rfl
  refine take1_ (i := 4) (v := ?_) (a' := ?_) (some 17) #[true, true, true, true, true, false, false, false] rfl rfl (by kernel_rfl) (fun _ _ _ h => h) (Or.inl ⟨by rfl, ?_⟩) hHeld ?_ ?_
  rotate_left
  · (intro w hSw; (try dsimp only at hSw); go_simp; (try with_reducible rfl))
  rotate_left
  · simp only [Act.put, List.setIfInBounds_toArray, List.set_cons_zero, List.set_cons_succ]
    rfl
  refine take1_ (i := 5) (v := ?_) (a' := ?_) (some 18) #[true, true, true, true, true, true, false, false] rfl rfl (by kernel_rfl) (fun _ _ _ h => h) (Or.inl ⟨by rfl, ?_⟩) hHeld ?_ ?_
  rotate_left
  · (intro w hSw; (try dsimp only at hSw); go_simp; (try with_reducible rfl))
  rotate_left
  · simp only [Act.put, List.setIfInBounds_toArray, List.set_cons_zero, List.set_cons_succ]
    rfl
  refine take1_ (i := 6) (v := ?_) (a' := ?_) (some 19) #[true, true, true, true, true, true, true, false] rfl rfl (by kernel_rfl) (fun _ _ _ h => h) (Or.inl ⟨by rfl, ?_⟩) hHeld ?_ ?_
  rotate_left
  · (intro w hSw; (try dsimp only at hSw); go_simp; (try with_reducible rfl))
  rotate_left
  · simp only [Act.put, List.setIfInBounds_toArray, List.set_cons_zero, List.set_cons_succ]
    rfl
  refine loud1_ (i := 7) (some 20) #[true, true, true, true, true, true, true, true] rfl rfl (by kernel_rfl) (fun K hK => ?_)
  go_simp
  (go_at_call 134; refine HN.out.mono ?_; rintro e w2 ⟨rfl, hct⟩; have HCn := Lib.hid (HD.out.next hct); clear hct)
  refine hK.out _ _ (by trivial) (fun hHeld' => ?_)
  clear hK K hHeld
  have hHeld := hHeld'
  clear hHeld'
  try simp only [Act.put, List.setIfInBounds_toArray, List.set_cons_zero, List.set_cons_succ]
  refine wpAnyH_done (by kernel_rfl) ?_ _
  clear hHeld HN HD HC1
  have HC2 : Hid (CrPass w g v l 16 (decide (l.length < 16)) pb (sumF (rN l 0 8) (rN l 8 8) false 0 0 (.slice none 0 0)) 105 w2) := Lib.hid (by
    have := HCn.out
    rw [show (decide (l.length < 8) || !rOk l 8 8) = decide (l.length < 8 + 8) from bad_next l 8 8 (by decide)] at this
    simpa [sumF] using this)
  clear HCn
  have HF := Lib.hid (pr_flag pb 2 _ 105 HC2.out.form (by omega) hl2 HC2.out.cell (by simp [sumF]) hpg hv)
  unfold rV at HF
  go_upto_region 3 with (go_at_call 99; go_must (refine HF.out.mono ?_; rintro e w3 ⟨rfl, hct⟩; have HCn := Lib.hid (HC2.out.next hct); clear hct))
  have HC3 : Hid (CrPass w g v l 17 (decide (l.length < 17)) pb (sumF (rN l 0 8) (rN l 8 8) (decide (rN l 16 1 = 1)) 0 0 (.slice none 0 0)) 105 w3) := Lib.hid (by
    have := HCn.out
    rw [show (decide (l.length < 16) || !rOk l 16 1) = decide (l.length < 16 + 1) from bad_next l 16 1 (by decide)] at this
    simpa [sumF] using this)
  clear HF HCn HC2
  have cs3 : w3.cell? ⟨pb, 5, none⟩ = some (.slice none 0 0) := cell_row HC3.out.cell 5
  go_upto_region 4 with fail
  have hal : Below w3.heap.size w3 (w3.alloc (.cells #[.int .i64 0] 3 (0, 0))) := (Below.refl _ _).alloc (Nat.le_refl _) _
  have hn := heap_alloc_last w3 (.cells #[.int .i64 0] 3 (0, 0))
  have hgl : g < w3.heap.size := (Array.getElem?_eq_some_iff.1 HC3.out.form.box).1
  have hpl : pb < w3.heap.size := (Array.getElem?_eq_some_iff.1 HC3.out.cell).1
  revert hal hn
  generalize w3.alloc (.cells #[.int .i64 0] 3 (0, 0)) = w3n
  intro hal hn
  have hn2 : w3n.heap[w3.heap.size]? = some (.cells #[.int .i64 0] 3 (0, 0)) := hn
  have hw0 : w.heap.size ≤ w3.heap.size := HC3.out.keep.size
  have HN := Lib.hid (cr_int 1 w3.heap.size 0 #[.int .i64 0] 3 0 (HC3.out.form.below hal) (by decide) (by omega) hl2 hn2 rfl (by omega) (byt_apart HC3.out.form.byt))
  have HK3 := Lib.hid (HC3.out.keep.trans (Keep.of_below hal))
  have HP3 := Lib.hid (old_heap HC3.out.cell hal)
  clear hal hn hn2 cs3 HC3
  go_upto_region 5 with (go_at_call 132; go_must (refine HN.out.mono ?_; rintro e w4 ⟨rfl, hct⟩; have HCT := Lib.hid hct; clear hct))
  have HC4 : Hid (CrPass w g v l 18 (decide (l.length < 18)) pb (sumF (rN l 0 8) (rN l 8 8) (decide (rN l 16 1 = 1)) 0 0 (.slice none 0 0)) 105 w4) := Lib.hid (by
    have h1 := HCT.out.form
    rw [show (decide (l.length < 17) || !rOk l 17 1) = decide (l.length < 17 + 1) from bad_next l 17 1 (by decide)] at h1
    exact ⟨h1, HCT.out.keep.heap HP3.out (by omega), HK3.out.trans' HCT.out.keep (fun i hi hf => by rcases hf with e | e; exact .inl e; omega)⟩)
  clear HN HCT HK3 HP3
  have HD := Lib.hid HC4.out.drew
  have HN := Lib.hid (cr_int 2 pb 3 _ 105 0 HD.out.form (by decide) (by omega) hl2 HD.out.cell (by simp [sumF]) hpg hv)
  refine wp_region_held_drew (S := (fun w' => True)) (by kernel_rfl) (by trivial) (fun hHeld => ?_)
  refine take1_ (i := 0) (v := ?_) (a' := ?_) (some 33) #[true, false, false, false, false, false, false, false] rfl rfl (by kernel_rfl) (fun _ _ _ h => h) (Or.inl ⟨by rfl, ?_⟩) hHeld ?_ ?_
  rotate_left
  · (intro w hSw; (try dsimp only at hSw); go_simp; (try with_reducible rfl))
  rotate_left
  · simp only [Act.put, List.setIfInBounds_toArray, List.set_cons_zero, List.set_cons_succ]
    rfl
  refine take1_ (i := 1) (v := ?_) (a' := ?_) (some 34) #[true, true, false, false, false, false, false, false] rfl rfl (by kernel_rfl) (fun _ _ _ h => h) (Or.inl ⟨by rfl, ?_⟩) hHeld ?_ ?_
  rotate_left
  · (intro w hSw; (try dsimp only at hSw); go_simp; (try with_reducible rfl))
  rotate_left
  · simp only [Act.put, List.setIfInBounds_toArray, List.set_cons_zero, List.set_cons_succ]
    rfl
  refine take1_ (i := 2) (v := ?_) (a' := ?_) (some 35) #[true, true, true, false, false, false, false, false] rfl rfl (by kernel_rfl) (fun _ _ _ h => h) (Or.inl ⟨by rfl, ?_⟩) hHeld ?_ ?_
  rotate_left
  · (intro w hSw; (try dsimp only at hSw); go_simp; (try with_reducible rfl))
  rotate_left
  · simp only [Act.put, List.setIfInBounds_toArray, List.set_cons_zero, List.set_cons_succ]
    rfl
  refine take1_ (i := 3) (v := ?_) (a' := ?_) (some 36) #[true, true, true, true, false, false, false, false] rfl rfl (by kernel_rfl) (fun _ _ _ h => h) (Or.inl ⟨by rfl, ?_⟩) hHeld ?_ ?_
  rotate_left
  · (intro w hSw; (try dsimp only at hSw); go_simp; (try with_reducible rfl))
  rotate_left
  · simp only [Act.put, List.setIfInBounds_toArray, List.set_cons_zero, List.set_cons_succ]
    rfl
  refine take1_ (i := 4) (v := ?_) (a' := ?_) (some 37) #[true, true, true, true, true, false, false, false] rfl rfl (by kernel_rfl) (fun _ _ _ h => h) (Or.inl ⟨by rfl, ?_⟩) hHeld ?_ ?_
  rotate_left
  · (intro w hSw; (try dsimp only at hSw); go_simp; (try with_reducible rfl))
  rotate_left
  · simp only [Act.put, List.setIfInBounds_toArray, List.set_cons_zero, List.set_cons_succ]
    rfl
  refine take1_ (i := 5) (v := ?_) (a' := ?_) (some 38) #[true, true, true, true, true, true, false, false] rfl rfl (by kernel_rfl) (fun _ _ _ h => h) (Or.inl ⟨by rfl, ?_⟩) hHeld ?_ ?_
  rotate_left
  · (intro w hSw; (try dsimp only at hSw); go_simp; (try with_reducible rfl))
  rotate_left
  · simp only [Act.put, List.setIfInBounds_toArray, List.set_cons_zero, List.set_cons_succ]
    rfl
  refine take1_ (i := 6) (v := ?_) (a' := ?_) (some 39) #[true, true, true, true, true, true, true, false] rfl rfl (by kernel_rfl) (fun _ _ _ h => h) (Or.inl ⟨by rfl, ?_⟩) hHeld ?_ ?_
  rotate_left
  · (intro w hSw; (try dsimp only at hSw); go_simp; (try with_reducible rfl))
  rotate_left
  · simp only [Act.put, List.setIfInBounds_toArray, List.set_cons_zero, List.set_cons_succ]
    rfl
  refine loud1_ (i := 7) (some 40) #[true, true, true, true, true, true, true, true] rfl rfl (by kernel_rfl) (fun K hK => ?_)
  go_simp
  (go_at_call 132; refine HN.out.mono ?_; rintro e w5 ⟨rfl, hct⟩; have HCn := Lib.hid (HD.out.next hct); clear hct)
  refine hK.out _ _ (by trivial) (fun hHeld' => ?_)
  clear hK K hHeld
  have hHeld := hHeld'
  clear hHeld'
  try simp only [Act.put, List.setIfInBounds_toArray, List.set_cons_zero, List.set_cons_succ]
  refine wpAnyH_done (by kernel_rfl) ?_ _
  clear hHeld HN HD HC4
  have HC5 : Hid (CrPass w g v l 20 (decide (l.length < 20)) pb (sumF (rN l 0 8) (rN l 8 8) (decide (rN l 16 1 = 1)) (rN l 18 2 : Int) 0 (.slice none 0 0)) 105 w5) := Lib.hid (by
    have := HCn.out
    rw [show (decide (l.length < 18) || !rOk l 18 2) = decide (l.length < 18 + 2) from bad_next l 18 2 (by decide)] at this
    simpa [sumF] using this)
  clear HCn
  go_upto_region 6 with fail
  have HD := Lib.hid HC5.out.drew
  have HN := Lib.hid (cr_word 4 pb 4 _ 105 0 HD.out.form (by decide) (by omega) hl2 HD.out.cell (by simp [sumF]) hpg hv)
  refine wp_region_held_drew (S := (fun w' => True)) (by kernel_rfl) (by trivial) (fun hHeld => ?_)
  refine take1_ (i := 0) (v := ?_) (a' := ?_) (some 41) #[true, false, false, false, false, false, false, false] rfl rfl (by kernel_rfl) (fun _ _ _ h => h) (Or.inl ⟨by rfl, ?_⟩) hHeld ?_ ?_
  rotate_left
  · (intro w hSw; (try dsimp only at hSw); go_simp; (try with_reducible rfl))
  rotate_left
  · simp only [Act.put, List.setIfInBounds_toArray, List.set_cons_zero, List.set_cons_succ]
    rfl
  refine take1_ (i := 1) (v := ?_) (a' := ?_) (some 42) #[true, true, false, false, false, false, false, false] rfl rfl (by kernel_rfl) (fun _ _ _ h => h) (Or.inl ⟨by rfl, ?_⟩) hHeld ?_ ?_
  rotate_left
  · (intro w hSw; (try dsimp only at hSw); go_simp; (try with_reducible rfl))
  rotate_left
  · simp only [Act.put, List.setIfInBounds_toArray, List.set_cons_zero, List.set_cons_succ]
    rfl
  refine take1_ (i := 2) (v := ?_) (a' := ?_) (some 43) #[true, true, true, false, false, false, false, false] rfl rfl (by kernel_rfl) (fun _ _ _ h => h) (Or.inl ⟨by rfl, ?_⟩) hHeld ?_ ?_
  rotate_left
  · (intro w hSw; (try dsimp only at hSw); go_simp; (try with_reducible rfl))
  rotate_left
  · simp only [Act.put, List.setIfInBounds_toArray, List.set_cons_zero, List.set_cons_succ]
    rfl
  refine take1_ (i := 3) (v := ?_) (a' := ?_) (some 44) #[true, true, true, true, false, false, false, false] rfl rfl (by kernel_rfl) (fun _ _ _ h => h) (Or.inl ⟨by rfl, ?_⟩) hHeld ?_ ?_
  rotate_left
  · (intro w hSw; (try dsimp only at hSw); go_simp; (try with_reducible rfl))
  rotate_left
  · simp only [Act.put, List.setIfInBounds_toArray, List.set_cons_zero, List.set_cons_succ]
    rfl
  refine take1_ (i := 4) (v := ?_) (a' := ?_) (some 45) #[true, true, true, true, true, false, false, false] rfl rfl (by kernel_rfl) (fun _ _ _ h => h) (Or.inl ⟨by rfl, ?_⟩) hHeld ?_ ?_
  rotate_left
  · (intro w hSw; (try dsimp only at hSw); go_simp; (try with_reducible rfl))
  rotate_left
  · simp only [Act.put, List.setIfInBounds_toArray, List.set_cons_zero, List.set_cons_succ]
    rfl
  refine take1_ (i := 5) (v := ?_) (a' := ?_) (some 46) #[true, true, true, true, true, true, false, false] rfl rfl (by kernel_rfl) (fun _ _ _ h => h) (Or.inl ⟨by rfl, ?_⟩) hHeld ?_ ?_
  rotate_left
  · (intro w hSw; (try dsimp only at hSw); go_simp; (try with_reducible rfl))
  rotate_left
  · simp only [Act.put, List.setIfInBounds_toArray, List.set_cons_zero, List.set_cons_succ]
    rfl
  refine take1_ (i := 6) (v := ?_) (a' := ?_) (some 47) #[true, true, true, true, true, true, true, false] rfl rfl (by kernel_rfl) (fun _ _ _ h => h) (Or.inl ⟨by rfl, ?_⟩) hHeld ?_ ?_
  rotate_left
  · (intro w hSw; (try dsimp only at hSw); go_simp; (try with_reducible rfl))
  rotate_left
  · simp only [Act.put, List.setIfInBounds_toArray, List.set_cons_zero, List.set_cons_succ]
    rfl
  refine loud1_ (i := 7) (some 48) #[true, true, true, true, true, true, true, true] rfl rfl (by kernel_rfl) (fun K hK => ?_)
  go_simp
  (go_at_call 135; refine HN.out.mono ?_; rintro e w6 ⟨rfl, hct⟩; have HCn := Lib.hid (HD.out.next hct); clear hct)
  refine hK.out _ _ (by trivial) (fun hHeld' => ?_)
  clear hK K hHeld
  have hHeld := hHeld'
  clear hHeld'
  try simp only [Act.put, List.setIfInBounds_toArray, List.set_cons_zero, List.set_cons_succ]
  refine wpAnyH_done (by kernel_rfl) ?_ _
  clear hHeld HN HD HC5
  have HC6 : Hid (CrPass w g v l 24 (decide (l.length < 24)) pb (sumF (rN l 0 8) (rN l 8 8) (decide (rN l 16 1 = 1)) (rN l 18 2 : Int) (rN l 20 4) (.slice none 0 0)) 105 w6) := Lib.hid (by
    have := HCn.out
    rw [show (decide (l.length < 20) || !rOk l 20 4) = decide (l.length < 20 + 4) from bad_next l 20 4 (by decide)] at this
    simpa [sumF] using this)
  clear HCn
  have HL := Lib.hid (lr_entry 24 pb 5 _ 105 HC6.out.form hl (by omega) HC6.out.cell (by simp [sumF]) hpg hv)
  unfold rV at HL
  go_wp2_with (go_at_call 100; go_must (refine HL.out.mono ?_; rintro e w7 ⟨v', J, rfl, hL, hJ⟩; have H7 := Lib.hid hL; have HJ := Lib.hid hJ; clear hL hJ))
  go_end0
  exact ⟨v', J, rfl, ⟨H7.out.form, by simpa [sumF] using H7.out.cell, own_mono H7.out.own HC6.out.keep.size, HC6.out.keep.trans H7.out.keep⟩, HJ.out⟩
end Go.Proofs.Ytlcbfpcabalgcaa
