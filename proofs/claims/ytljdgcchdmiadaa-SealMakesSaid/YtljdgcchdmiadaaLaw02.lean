/-
  The fixed fact of law 2.
-/
import Derived.Test.YtljdgcchdmiadaaSealO
import Derived.Test.YtljdgcchdmiadaaSealQ
namespace Go.Proofs.Ytljdgcchdmiadaa
open Go.RowKit
set_option linter.unusedVariables false
set_option linter.unusedSimpArgs false
theorem crc_check : crc [49, 50, 51, 52, 53, 54, 55, 56, 57] = 3421780262 := by decide +kernel
theorem alloc_freeze (w : World) (C : Array Value) (e n : Nat) : (w.alloc (.cells C e (0, 0))).freeze ⟨w.heap.size, n, none⟩ 1 = w.alloc (.cells C e (n, n + 1)) := by
  have hm : ∀ (a : Array Obj) (x : Obj) (f : Obj → Obj), (a.push x).modify a.size f = a.push (f x) := by
    intro a x f
    apply Array.ext
    · simp
    · intro i h1 h2
      simp only [Array.getElem_modify, Array.getElem_push]
      by_cases h : a.size = i
      · subst h; simp
      · have hi : i < a.size := by simp at h1; omega
        simp [h, hi]
  unfold World.freeze
  rw [if_neg (by decide)]
  show ({ w.alloc (.cells C e) with heap := (w.heap.push (.cells C e)).modify w.heap.size _ } : World) = _
  rw [hm]
  rfl
/-- '[]byte("..")' of a literal: its block bears a mark behind its end. -/
theorem run_convert_mark {P : Program} {src e : TypeId} (hs : P.underlying src = some (.slice e)) (he : P.underlying e = some (.int .u8)) (w : World) (C : Array Value) (n c : Nat) :
    (convert src src (.slice (some ⟨w.heap.size, 0, none⟩) n c)).run P (w.alloc (.cells C e (0, 0))) = .ok (.slice (some ⟨w.heap.size, 0, none⟩) n c) (w.alloc (.cells C e (C.size, C.size + 1))) := by
  have hsh : (w.alloc (.cells C e (0, 0))).shape? w.heap.size = some (e, C.size) := by
    have : (w.alloc (.cells C e (0, 0))).heap[w.heap.size]? = some (.cells C e (0, 0)) := heap_alloc_last _ _
    unfold World.shape?
    rw [this]
  simp [convert, run_underlying hs, run_underlying he, markStringish, hsh, alloc_freeze]
theorem byt_lit (w : World) (e : Nat) (fr : Nat × Nat) (l : List UInt8) (n : Nat) (hn : l.length = n) (hm : n ≤ maxLen) (w' : World) (hw : w' = w.alloc (.cells (bvs l).toArray e fr)) : Byt w' (.slice (some ⟨w.heap.size, 0, none⟩) n n) l := by
  subst hw; subst hn
  exact .inr ⟨_, _, _, rfl, Nat.le_refl _, hm, RdB.row (heap_alloc_last w _) (fun i hi => by rw [Nat.zero_add, List.getElem?_toArray, bvs_get _ _ hi])⟩
set_option maxHeartbeats 1000000 in
set_option maxRecDepth 10000 in
theorem awake02 (w : World) : Calls Try.prog 8 #[] w fun e w' => e = .returned (.bool true) ∧ Below w.heap.size w w' := by
  have hz := zero_sec
  have hcv := run_convert_mark (P := Try.prog) Try.underlying22 Try.underlying5
  have hb1 := (Below.refl w.heap.size w).alloc (Nat.le_refl _) (.cells #[.int .u8 104, .int .u8 105] 5 (2, 3))
  have hy1 : Byt (w.alloc (.cells #[.int .u8 104, .int .u8 105] 5 (2, 3))) (.slice (some ⟨w.heap.size, 0, none⟩) 2 2) [104, 105] := byt_lit w _ (2, 3) [104, 105] 2 rfl (by decide) _ rfl
  have HMK : Hid (Calls Try.prog 12 #[.int .u8 3, .slice (some ⟨w.heap.size, 0, none⟩) 2 2] (w.alloc (.cells #[.int .u8 104, .int .u8 105] 5 (2, 3))) fun e w' => e = .returned (.tuple #[secV (makeS 3 [104, 105]), .int .i64 (makeE 3 [104, 105])]) ∧ Below (w.alloc (.cells #[.int .u8 104, .int .u8 105] 5 (2, 3))).heap.size (w.alloc (.cells #[.int .u8 104, .int .u8 105] 5 (2, 3))) w') := make_any 3 _ [104, 105] _ hy1
  have hs := sealS_length 3 [104, 105] (by decide)
  have hmk : makeS 3 [104, 105] = sealS 3 [104, 105] := rfl
  have hme : makeE 3 [104, 105] = 0 := rfl
  rw [hmk, hme] at HMK
  have ho : openB (sealS 3 [104, 105]) = true := open_seal 3 [104, 105] (by decide)
  have h2 : (sealS 3 [104, 105]).getD 2 0 = 3 := seal_at2 _ _
  have h0 : (bvs (sealS 3 [104, 105]))[0]? = some (.int .u8 215) := by rw [bvs_get _ _ (by omega), seal_at0]; rfl
  obtain ⟨m, hm⟩ : ∃ m, m = sealS 3 [104, 105] := ⟨_, rfl⟩
  rw [← hm] at HMK hs ho h2 h0
  have HI3 : ∀ w' : World, Hid (Calls Try.prog 16 #[.agg (bvs m).toArray, .int .u8 3] w' fun e w'' => e = .returned (.bool true) ∧ Below w'.heap.size w' w'') := fun w' => by
    have q := is_any m 3 w' hs
    rw [ho, h2] at q
    exact q
  have HI4 : ∀ w' : World, Hid (Calls Try.prog 16 #[.agg (bvs m).toArray, .int .u8 4] w' fun e w'' => e = .returned (.bool false) ∧ Below w'.heap.size w' w'') := fun w' => by
    have q := is_any m 4 w' hs
    rw [ho, h2] at q
    exact q
  have HMS : Hid ((bvs m).toArray.size = 128) := by unfold Hid; rw [secV_size, hs]
  have H0 := Lib.hid h0
  have HB1 := Lib.hid hb1
  have HCR : ∀ w' : World, Hid (Calls Try.prog 9 #[.slice (some ⟨w'.heap.size, 0, none⟩) 9 9] (w'.alloc (.cells #[.int .u8 49, .int .u8 50, .int .u8 51, .int .u8 52, .int .u8 53, .int .u8 54, .int .u8 55, .int .u8 56, .int .u8 57] 5 (9, 10))) fun e w'' => e = .returned (.int .u32 3421780262) ∧ (w'.alloc (.cells #[.int .u8 49, .int .u8 50, .int .u8 51, .int .u8 52, .int .u8 53, .int .u8 54, .int .u8 55, .int .u8 56, .int .u8 57] 5 (9, 10))) = w'') := fun w' => by
    have q := crc_any _ [49, 50, 51, 52, 53, 54, 55, 56, 57] _ (by decide) (byt_lit w' 5 (9, 10) [49, 50, 51, 52, 53, 54, 55, 56, 57] 9 rfl (by decide) _ rfl)
    rw [crc_check] at q
    exact q
  clear hy1 hs hmk hme ho h2 h0 hm hb1
  unfold secV at HMK
  go_enter Try.func8, Try.ntmps8
  go_upto_region 2 with (first
    | (go_at_call 12; refine HMK.out.mono ?_; rintro e w2 ⟨rfl, h2⟩; have HB2 := Lib.hid (HB1.out.trans (h2.mono (by simp))); clear h2)
    | (refine wpList_store_row rfl 30 (.tmp 1) (.tmp 7) rfl w2.heap.size zArr (bvs m).toArray 30 rfl rfl (heap_alloc_last _ _) (by rw [HMS.out]; exact size_sec) (by rw [HMS.out, zArr_size]) (sec_one _) ?_))
  rw [World.setRow_alloc_new]
  have hG3 := heap_alloc_last w2 (.cells (bvs m).toArray 30 (0, 0))
  have HB3 := Lib.hid (HB2.out.alloc HB2.out.size (.cells (bvs m).toArray 30 (0, 0)))
  have hlt3 : w2.heap.size < (w2.alloc (.cells (bvs m).toArray 30 (0, 0))).heap.size := by simp
  have hle3 : w.heap.size ≤ w2.heap.size := HB2.out.size
  revert hG3 HB3 hlt3
  generalize w2.alloc (.cells (bvs m).toArray 30 (0, 0)) = w3
  intro hG3 HB3 hlt3
  have hG4 := (Below.heap_alloc w3 (.cells #[.int .u8 49, .int .u8 50, .int .u8 51, .int .u8 52, .int .u8 53, .int .u8 54, .int .u8 55, .int .u8 56, .int .u8 57] 5 (9, 10)) w2.heap.size hlt3).trans hG3
  have HB4 := Lib.hid (HB3.out.alloc HB3.out.size (.cells #[.int .u8 49, .int .u8 50, .int .u8 51, .int .u8 52, .int .u8 53, .int .u8 54, .int .u8 55, .int .u8 56, .int .u8 57] 5 (9, 10)))
  have HC4 := HCR w3
  have HLT : Hid (w2.heap.size < (w3.alloc (.cells #[.int .u8 49, .int .u8 50, .int .u8 51, .int .u8 52, .int .u8 53, .int .u8 54, .int .u8 55, .int .u8 56, .int .u8 57] 5 (9, 10))).heap.size) := by unfold Hid; simp; omega
  have c4 : (w3.alloc (.cells #[.int .u8 49, .int .u8 50, .int .u8 51, .int .u8 52, .int .u8 53, .int .u8 54, .int .u8 55, .int .u8 56, .int .u8 57] 5 (9, 10))).cell? ⟨w2.heap.size, 0, none⟩ = some (.int .u8 215) := by
    rw [cell_row hG4, List.getElem?_toArray]; exact H0.out
  have HG4 := Lib.hid hG4
  clear hG3 hlt3 hG4 HCR
  go_wp2_with (first
    | (go_at_call 9; refine HC4.out.mono ?_; rintro e w5 ⟨rfl, rfl⟩; clear HC4 hcv; revert HB4 HLT c4 HG4; generalize w3.alloc (.cells #[.int .u8 49, .int .u8 50, .int .u8 51, .int .u8 52, .int .u8 53, .int .u8 54, .int .u8 55, .int .u8 56, .int .u8 57] 5 (9, 10)) = w5; intro HB4 HLT c4 HG4)
    | (refine wpList_load_row_g rfl 30 (.tmp 1) rfl w2.heap.size rfl _ _ _ _ HG4.out Try.underlying30 rfl (by rw [HMS.out]; exact size_sec) ?_)
    | (refine wpList_load_row_g rfl 30 (.tmp 1) rfl w2.heap.size rfl _ _ _ _ HG6.out Try.underlying30 rfl (by rw [HMS.out]; exact size_sec) ?_)
    | (have q6 := HB6; clear q6; go_at_call 16; refine (HI4 _).out.mono ?_; rintro e w7 ⟨rfl, h7⟩; have HB7 := Lib.hid (HB6.out.trans (h7.mono HB6.out.size)); clear h7)
    | (go_at_call 16; refine (HI3 _).out.mono ?_; rintro e w6 ⟨rfl, h6⟩; have HG6 := Lib.hid ((h6.block _ HLT.out).trans HG4.out); have HB6 := Lib.hid (HB4.out.trans (h6.mono HB4.out.size)); clear h6 HG4 c4 HB4))
  go_ret
  exact ⟨rfl, HB7.out⟩
end Go.Proofs.Ytljdgcchdmiadaa
