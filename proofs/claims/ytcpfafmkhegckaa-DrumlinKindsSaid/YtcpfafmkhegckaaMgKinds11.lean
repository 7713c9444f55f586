/-
  Codec: write and read of one kind.
-/
import Derived.Test.YtcpfafmkhegckaaMgKinds5
import Derived.Test.YtcpfafmkhegckaaMgKinds3
import Derived.Test.YtcpfafmkhegckaaMgKinds6
import Derived.Test.YtcpfafmkhegckaaMgKinds10
import Derived.StillTailTactics
import Derived.WalkKit
import Derived.Deep.RegionHeld3
import Derived.Test.YtcpfafmkhegckaaMgKinds7
import Derived.Laws.StructEq
namespace Go.Proofs.Ytcpfafmkhegckaa
open Go.RowKit
set_option linter.unusedVariables false
set_option linter.unusedSimpArgs false
set_option linter.unnecessarySimpa false
theorem infoHeader : (Try.prog.info? 142).map (·.size) = some 6 := by kernel_rfl
set_option maxRecDepth 10000 in
set_option maxHeartbeats 8000000 in
theorem rd_header (Z : Array Value) (hZ : Z = #[.int .u64 0, .int .u64 0, .int .i64 0, .int .i64 0, .int .i64 0, .int .u32 0]) (kind : UInt8) (l : List UInt8) (V : Array Value) (at_ : Nat) (mayb : Bool) (bad : Bool) (w : World) (hl : l.length = 128) (hV : V.size = 6) (hV1 : V.all (·.oneCell') = true)
    (hm : ∀ w', Calls Try.prog 127 #[.agg V] w' fun e w'' => e = .returned (.bool mayb) ∧ Below w'.heap.size w' w'')
    (hp : ∀ w' g v pb, CrAt w' g v (openL l) 0 false → w'.heap[pb]? = some (.cells Z 142 (0, 0)) → pb ≠ g → Apart (· = pb) v (openL l) → Calls Try.prog 126 #[rV g, .pointer (some ⟨pb, 0, none⟩)] w' fun e w'' => e = .returned (.tuple #[]) ∧ CrPass w' g v (openL l) at_ bad pb V 142 w'') :
    Calls Try.prog 125 #[.int .u8 (kind.toNat : Int), secV l, .func (.func 126) #[] #[], .func (.func 127) #[] #[]] w (RdS w ((openB l && decide (openK l = kind)) && ((!bad && decide (at_ = (openL l).length)) && mayb)) V Z) := by
  have HZS : Hid (Z.size = 6) := by rw [hZ]; exact rfl
  have HZ1 : Hid (Z.all (·.oneCell') = true) := by unfold Hid; rw [hZ]; kernel_rfl
  have HZE := Lib.hid hZ
  clear hZ
  have HL := Lib.hid hl
  have HM := Lib.hid hm
  have HP := Lib.hid hp
  have HV := Lib.hid hV
  have HV1 := Lib.hid hV1
  have HSZ : Hid ((bvs l).toArray.size = 128) := by unfold Hid; rw [secV_size, hl]
  have HBL := Lib.hid (openL_le l)
  have hop := fun w' => open_any l w' hl
  obtain ⟨k, hk⟩ : ∃ k, openK l = k := ⟨_, rfl⟩
  obtain ⟨b, hb⟩ : ∃ b, openL l = b := ⟨_, rfl⟩
  obtain ⟨oe, hoe⟩ : ∃ oe, openE l = oe := ⟨_, rfl⟩
  rw [hk, hb, hoe] at hop
  rw [hb] at HP HBL
  rw [hk, hb]
  have HOP := fun w' => Lib.hid (hop w')
  have HOE := Lib.hid hoe
  clear hop hk hb hoe hl hm hp hV hV1
  unfold secV at HOP ⊢
  unfold OpTo at HOP
  go_enter Try.func125, Try.ntmps125
  go_upto_region 2 with fail
  have hA := a4 w (.cells (bvs l).toArray 36 (0, 0)) (.cells #[.int .u64 0, .int .u64 0, .int .i64 0, .int .i64 0, .int .i64 0, .int .u32 0] 142 (0, 0)) (.cells #[.int .u64 0, .int .u64 0, .int .i64 0, .int .i64 0, .int .i64 0, .int .u32 0] 142 (0, 0)) (.cells #[.int .u64 0, .int .u64 0, .int .i64 0, .int .i64 0, .int .i64 0, .int .u32 0] 142 (0, 0))
  revert hA
  generalize (((w.alloc (.cells (bvs l).toArray 36 (0, 0))).alloc (.cells #[.int .u64 0, .int .u64 0, .int .i64 0, .int .i64 0, .int .i64 0, .int .u32 0] 142 (0, 0))).alloc (.cells #[.int .u64 0, .int .u64 0, .int .i64 0, .int .i64 0, .int .i64 0, .int .u32 0] 142 (0, 0))).alloc (.cells #[.int .u64 0, .int .u64 0, .int .i64 0, .int .i64 0, .int .i64 0, .int .u32 0] 142 (0, 0)) = w2
  intro hA
  rw [← HZE.out] at hA
  have HA := Lib.hid hA
  clear hA
  go_upto_region 3 with (first
    | (refine wpList_load_row rfl 36 (.tmp 5) rfl w.heap.size rfl _ _ _ _ HA.out.h0 Try.underlying36 rfl (by rw [HSZ.out]; exact size_sec) ?_)
    | (go_at_call 58; refine (HOP _).out.mono ?_; rintro e w3 ⟨v, rfl, ho3, hb3⟩; obtain ⟨sp, cp, rfl⟩ := own_slice1 ho3; have HO3 := Lib.hid ho3; have HB3 := Lib.hid (bnext HA.out.bel hb3); have HR := Lib.hid (old_heap HA.out.h1 hb3); have HX := Lib.hid (old_heap HA.out.h2 hb3); have HN := Lib.hid (old_heap HA.out.h3 hb3); have hs3 := hb3.size; clear ho3 hb3))
  have hs2 := HA.out.size
  have hz3 : w.heap.size + 1 + 1 + 1 + 1 ≤ w3.heap.size := by omega
  have HZ2 := Lib.hid (show w.heap.size + 1 + 1 < w2.heap.size by omega)
  clear hs2 hs3 HA
  have HZ3 := Lib.hid hz3
  clear hz3
  cases ho : openB l with
  | false =>
    obtain rfl : oe = 21 := by rw [← HOE.out]; unfold openE; rw [ho]; rfl
    go_wp2_with (first
      | (refine wpList_load_row rfl 142 (.tmp 11) rfl (w.heap.size + 1 + 1 + 1) rfl _ _ _ _ HN.out Try.underlying142 rfl (by rw [HZS.out]; exact infoHeader) ?_)
      | (refine wpList_store_row rfl 142 (.tmp 8) (.tmp 29) rfl (w.heap.size + 1) Z Z 142 rfl rfl HR.out (by rw [HZS.out]; exact infoHeader) rfl HZ1.out ?_))
    have hld := run_loadVar_row (P := Try.prog) (w3.setRow (w.heap.size + 1) Z) (w.heap.size + 1) 142 142 Z (0, 0) _ (setRow_heap _ _ _ _ _ _ HR.out) Try.underlying142 (by simp) (by rw [HZS.out]; exact infoHeader)
    exact bodyPost_ret (v := .tuple #[.agg Z, .int .i64 21]) (results_cell2 Try.results125 rfl rfl hld) rfl (rdS_no (by simp [ho]) rfl (below_row HB3.out (by omega)))
  | true =>
    obtain rfl : oe = 0 := by rw [← HOE.out]; unfold openE; rw [ho]; rfl
    by_cases hk : k = kind
    · subst hk
      have hkk := kind_eq k
      go_upto_region 6 with fail
      have hg4 := heap_alloc_last w3 (.cells #[.slice sp b.length cp, .int .i64 0, .bool false] 242 (0, 0))
      have hb4 : Below w3.heap.size w3 (w3.alloc (.cells #[.slice sp b.length cp, .int .i64 0, .bool false] 242 (0, 0))) := (Below.refl _ _).alloc (Nat.le_refl _) _
      revert hg4 hb4
      generalize w3.alloc (.cells #[.slice sp b.length cp, .int .i64 0, .bool false] 242 (0, 0)) = w4
      intro hg4 hb4
      have hbt4 := (own_byt HO3.out).1.below hb4
      have hcr : CrAt w4 w3.heap.size (.slice sp b.length cp) b 0 false := ⟨hg4, hbt4, byt_apart (own_byt HO3.out).1⟩
      have hap : Apart (· = w.heap.size + 1 + 1) (.slice sp b.length cp) b := own_apart HO3.out (by have := HZ2.out; omega)
      have HPP := Lib.hid (HP.out w4 w3.heap.size (.slice sp b.length cp) (w.heap.size + 1 + 1) hcr (old_heap HX.out hb4) (by have := HZ3.out; omega) hap)
      unfold rV at HPP
      have HB4 := Lib.hid (bnext HB3.out hb4)
      have HR4 := Lib.hid (old_heap HR.out hb4)
      have HN4 := Lib.hid (old_heap HN.out hb4)
      have hne : w3.heap.size ≠ w.heap.size + 1 ∧ w3.heap.size ≠ w.heap.size + 1 + 1 + 1 := by have := HZ3.out; omega
      have HNE := Lib.hid hne
      clear hg4 hb4 hbt4 hcr hap HP HR HN HX hne
      go_upto_region 7 with (go_at_call 126; refine HPP.out.mono ?_; rintro e w5 ⟨rfl, hcp⟩; have HCP := Lib.hid hcp; clear hcp)
      have c0 : w5.cell? ⟨w3.heap.size, 0, none⟩ = some (.slice sp b.length cp) := cell_row HCP.out.form.box 0
      have c1 : w5.cell? ⟨w3.heap.size, 1, none⟩ = some (.int .i64 (at_ : Int)) := cell_row HCP.out.form.box 1
      have c2 : w5.cell? ⟨w3.heap.size, 2, none⟩ = some (.bool bad) := cell_row HCP.out.form.box 2
      have HR5 := Lib.hid (HCP.out.keep.heap HR4.out (by have := HNE.out; omega))
      have HN5 := Lib.hid (HCP.out.keep.heap HN4.out (by have := HNE.out; omega))
      have HX5 := Lib.hid HCP.out.cell
      have HB5 := Lib.hid (keep_below2 HB4.out HCP.out.keep (Nat.le_refl _) (by have := HZ3.out; omega) (by omega))
      clear HPP HR4 HN4 HB4 HCP HO3
      cases bad with
      | true =>
        go_wp2_with (first
          | (refine wpList_load_row rfl 142 (.tmp 11) rfl (w.heap.size + 1 + 1 + 1) rfl _ _ _ _ HN5.out Try.underlying142 rfl (by rw [HZS.out]; exact infoHeader) ?_)
          | (refine wpList_store_row rfl 142 (.tmp 8) (.tmp 56) rfl (w.heap.size + 1) Z Z 142 rfl rfl HR5.out (by rw [HZS.out]; exact infoHeader) rfl HZ1.out ?_))
        have hld := run_loadVar_row (P := Try.prog) (w5.setRow (w.heap.size + 1) Z) (w.heap.size + 1) 142 142 Z (0, 0) _ (setRow_heap _ _ _ _ _ _ HR5.out) Try.underlying142 (by simp) (by rw [HZS.out]; exact infoHeader)
        exact bodyPost_ret (v := .tuple #[.agg Z, .int .i64 21]) (results_cell2 Try.results125 rfl rfl hld) rfl (rdS_no (by simp [ho]) rfl (below_row HB5.out (by omega)))
      | false =>
        by_cases hat : at_ = b.length
        · have hatI : ((at_ : Int) != (b.length : Int)) = false := by simp [hat]
          have HAT := Lib.hid hat
          clear hat
          cases mayb with
          | true =>
            go_wp2_with (first
              | (refine wpList_load_row_g (by rfl) 142 (.tmp 10) rfl (w.heap.size + 1 + 1) rfl _ _ _ _ HX5.out Try.underlying142 rfl (by rw [HV.out]; exact infoHeader) ?_)
              | (go_at_call 127; refine (HM.out _).mono ?_; rintro e w6 ⟨rfl, hb6⟩; have HR6 := Lib.hid (old_heap HR5.out hb6); have HX6 := Lib.hid (old_heap HX5.out hb6); have HB6 := Lib.hid (bnext HB5.out hb6); clear hb6)
              | (refine wpList_load_row rfl 142 (.tmp 10) rfl (w.heap.size + 1 + 1) rfl _ _ _ _ HX6.out Try.underlying142 rfl (by rw [HV.out]; exact infoHeader) ?_)
              | (refine wpList_store_row rfl 142 (.tmp 8) (.tmp 57) rfl (w.heap.size + 1) Z V 142 rfl rfl HR6.out (by rw [HV.out]; exact infoHeader) (by rw [HV.out, HZS.out]) HV1.out ?_))
            have hld := run_loadVar_row (P := Try.prog) (w6.setRow (w.heap.size + 1) V) (w.heap.size + 1) 142 142 V (0, 0) _ (setRow_heap _ _ _ _ _ _ HR6.out) Try.underlying142 (by simp) (by rw [HV.out]; exact infoHeader)
            exact bodyPost_ret (v := .tuple #[.agg V, .int .i64 0]) (results_cell2 Try.results125 rfl rfl hld) rfl (rdS_yes (by simp [HAT.out, ho]) rfl (below_row HB6.out (by omega)))
          | false =>
            go_wp2_with (first
              | (refine wpList_load_row_g (by rfl) 142 (.tmp 10) rfl (w.heap.size + 1 + 1) rfl _ _ _ _ HX5.out Try.underlying142 rfl (by rw [HV.out]; exact infoHeader) ?_)
              | (go_at_call 127; refine (HM.out _).mono ?_; rintro e w6 ⟨rfl, hb6⟩; have HR6 := Lib.hid (old_heap HR5.out hb6); have HN6 := Lib.hid (old_heap HN5.out hb6); have HB6 := Lib.hid (bnext HB5.out hb6); clear hb6)
              | (refine wpList_load_row rfl 142 (.tmp 11) rfl (w.heap.size + 1 + 1 + 1) rfl _ _ _ _ HN6.out Try.underlying142 rfl (by rw [HZS.out]; exact infoHeader) ?_)
              | (refine wpList_store_row rfl 142 (.tmp 8) (.tmp 56) rfl (w.heap.size + 1) Z Z 142 rfl rfl HR6.out (by rw [HZS.out]; exact infoHeader) rfl HZ1.out ?_))
            have hld := run_loadVar_row (P := Try.prog) (w6.setRow (w.heap.size + 1) Z) (w.heap.size + 1) 142 142 Z (0, 0) _ (setRow_heap _ _ _ _ _ _ HR6.out) Try.underlying142 (by simp) (by rw [HZS.out]; exact infoHeader)
            exact bodyPost_ret (v := .tuple #[.agg Z, .int .i64 21]) (results_cell2 Try.results125 rfl rfl hld) rfl (rdS_no (by simp [ho]) rfl (below_row HB6.out (by omega)))
        · have hatI : ((at_ : Int) != (b.length : Int)) = true := bne_iff_ne.2 (by omega)
          have HAT := Lib.hid hat
          clear hat
          go_wp2_with (first
            | (refine wpList_load_row rfl 142 (.tmp 11) rfl (w.heap.size + 1 + 1 + 1) rfl _ _ _ _ HN5.out Try.underlying142 rfl (by rw [HZS.out]; exact infoHeader) ?_)
            | (refine wpList_store_row rfl 142 (.tmp 8) (.tmp 56) rfl (w.heap.size + 1) Z Z 142 rfl rfl HR5.out (by rw [HZS.out]; exact infoHeader) rfl HZ1.out ?_))
          have hld := run_loadVar_row (P := Try.prog) (w5.setRow (w.heap.size + 1) Z) (w.heap.size + 1) 142 142 Z (0, 0) _ (setRow_heap _ _ _ _ _ _ HR5.out) Try.underlying142 (by simp) (by rw [HZS.out]; exact infoHeader)
          exact bodyPost_ret (v := .tuple #[.agg Z, .int .i64 21]) (results_cell2 Try.results125 rfl rfl hld) rfl (rdS_no (by simp [HAT.out, ho]) rfl (below_row HB5.out (by omega)))
    · have hkk := kind_ne k kind hk
      have HK := Lib.hid hk
      clear hk
      go_wp2_with (first
        | (refine wpList_load_row rfl 142 (.tmp 11) rfl (w.heap.size + 1 + 1 + 1) rfl _ _ _ _ HN.out Try.underlying142 rfl (by rw [HZS.out]; exact infoHeader) ?_)
        | (refine wpList_store_row rfl 142 (.tmp 8) (.tmp 29) rfl (w.heap.size + 1) Z Z 142 rfl rfl HR.out (by rw [HZS.out]; exact infoHeader) rfl HZ1.out ?_))
      have hld := run_loadVar_row (P := Try.prog) (w3.setRow (w.heap.size + 1) Z) (w.heap.size + 1) 142 142 Z (0, 0) _ (setRow_heap _ _ _ _ _ _ HR.out) Try.underlying142 (by simp) (by rw [HZS.out]; exact infoHeader)
      exact bodyPost_ret (v := .tuple #[.agg Z, .int .i64 21]) (results_cell2 Try.results125 rfl rfl hld) rfl (rdS_no (by simp [HK.out, ho]) rfl (below_row HB3.out (by omega)))
end Go.Proofs.Ytcpfafmkhegckaa
/-
  Codec: a region's header: the program's and the reference's.
-/
namespace Go.Proofs.Ytcpfafmkhegckaa
open Go.RowKit
set_option linter.unusedVariables false
set_option linter.unusedSimpArgs false
set_option linter.unnecessarySimpa false
structure Hdr where
  serial : Nat
  seq : Nat
  seg : Int
  grp : Int
  next : Int
  time : Nat
structure Hdr.Ok (x : Hdr) : Prop where
  serial : x.serial < 2 ^ 64
  seq : x.seq < 2 ^ 64
  seg : I64 x.seg
  grp : I64 x.grp
  next : I64 x.next
  time : x.time < 2 ^ 32
def Hdr.cells (x : Hdr) : List Value := [.int .u64 (x.serial : Int), .int .u64 (x.seq : Int), .int .i64 x.seg, .int .i64 x.grp, .int .i64 x.next, .int .u32 (x.time : Int)]
def hdrL (x : Hdr) : List (Nat × Int) := [(8, (x.serial : Int)), (8, (x.seq : Int)), (2, x.seg), (2, x.grp), (2, x.next), (4, (x.time : Int))]
theorem hdr_size (x : Hdr) : x.cells.toArray.size = 6 := rfl
theorem hdr_one (x : Hdr) : x.cells.toArray.all (·.oneCell') = true := by
  rw [List.all_toArray, List.all_eq_true]
  intro u hu
  simp only [Hdr.cells, List.mem_cons, List.not_mem_nil, or_false] at hu
  rcases hu with rfl | rfl | rfl | rfl | rfl | rfl <;> rfl
/-- What is read. -/
def rhdr (l : List UInt8) : Hdr := ⟨rN l 0 8, rN l 8 8, (rN l 16 2 : Int), (rN l 18 2 : Int), (rN l 20 2 : Int), rN l 22 4⟩
def rhdrOk (l : List UInt8) : Bool := (openB l && decide (openK l = 6)) && decide ((openL l).length = 26)
def zHdr : Hdr := ⟨0, 0, 0, 0, 0, 0⟩
def rhdrV (l : List UInt8) : Hdr := if rhdrOk l then rhdr (openL l) else zHdr
def ZH : Array Value := #[.int .u64 0, .int .u64 0, .int .i64 0, .int .i64 0, .int .i64 0, .int .u32 0]
theorem zHdr_cells : zHdr.cells.toArray = ZH := rfl
theorem rhdr_ok (l : List UInt8) : (rhdr l).Ok := by
  have h8 : ∀ a, rN l a 8 < 2 ^ 64 := fun a => Nat.lt_of_lt_of_le (rN_lt l a 8) (by decide)
  have h := fun a k (hk : k ≤ 4) => Nat.lt_of_lt_of_le (rN_lt l a k) (Nat.pow_le_pow_right (n := 256) (by decide) hk)
  have hi : ∀ a k, k ≤ 4 → I64 (rN l a k : Int) := fun a k hk => by have := h a k hk; exact ⟨by omega, by omega⟩
  exact ⟨h8 _, h8 _, hi _ _ (by decide), hi _ _ (by decide), hi _ _ (by decide), h _ _ (by decide)⟩
theorem i64_zero : I64 0 := ⟨by decide, by decide⟩
theorem zHdr_ok : zHdr.Ok := ⟨by decide, by decide, i64_zero, i64_zero, i64_zero, by decide⟩
theorem rhdrV_ok (l : List UInt8) : (rhdrV l).Ok := by unfold rhdrV; split; exact rhdr_ok _; exact zHdr_ok
set_option maxRecDepth 10000 in
set_option maxHeartbeats 4000000 in
theorem mayHeader_any (C : Array Value) (w : World) : Calls Try.prog 127 #[.agg C] w fun e w' => e = .returned (.bool true) ∧ Below w.heap.size w w' := by
  have hb : Below w.heap.size w (w.alloc (.cells C 142 (0, 0))) := (Below.refl _ _).alloc (Nat.le_refl _) _
  have HB := Lib.hid hb
  clear hb
  go_enter Try.func127, Try.ntmps127
  go_wp2
  go_ret
  exact ⟨rfl, HB.out⟩
theorem hdr_pw (x : Hdr) (hx : x.Ok) (w : World) (base g pb : Nat) (h : CwAt w base g [] false) (hb : w.heap[pb]? = some (.cells x.cells.toArray 142 (0, 0))) (hbs : base ≤ w.heap.size) (hpb : pb < base) :
    Calls Try.prog 126 #[wV g, .pointer (some ⟨pb, 0, none⟩)] w (CwTo w base g (fB (hdrL x)) (fBad (hdrL x))) := by
  have := pw_header x.serial x.seq x.seg x.grp x.next x.time pb 0 h (cell_row hb 0) (cell_row hb 1) (cell_row hb 2) (cell_row hb 3) (cell_row hb 4) (cell_row hb 5) hx.serial hx.seq hx.seg hx.grp hx.next hx.time (by simp) hbs hpb
  simpa [hdrL] using this
theorem hdr_bad (l : List UInt8) : (((((false || !rOk l 0 8) || !rOk l (0 + 8) 8) || !rOk l ((0 + 8) + 8) 2) || !rOk l (((0 + 8) + 8) + 2) 2) || !rOk l ((((0 + 8) + 8) + 2) + 2) 2 || !rOk l (((((0 + 8) + 8) + 2) + 2) + 2) 4) = decide (l.length < 26) := by
  rw [show (false || !rOk l 0 8) = decide (l.length < 0 + 8) from bad_next l 0 8 (by decide), bad_next l (0 + 8) 8 (by decide), bad_next l _ 2 (by decide), bad_next l _ 2 (by decide), bad_next l _ 2 (by decide), bad_next l _ 4 (by decide)]
theorem hdr_pr (l : List UInt8) (hl : l.length ≤ 1000) (w : World) (g : Nat) (v : Value) (pb : Nat) (h : CrAt w g v l 0 false) (hb : w.heap[pb]? = some (.cells ZH 142 (0, 0))) (hpg : pb ≠ g) (hv : Apart (· = pb) v l) :
    Calls Try.prog 126 #[rV g, .pointer (some ⟨pb, 0, none⟩)] w fun e w' => e = .returned (.tuple #[]) ∧ CrPass w g v l 26 (decide (l.length < 26)) pb (rhdr l).cells.toArray 142 w' := by
  refine (pr_header pb 0 ZH 142 0 0 0 0 0 0 h (by omega) hl hb rfl rfl rfl rfl rfl rfl hpg hv).mono fun e w' ⟨h1, h2⟩ => ⟨h1, ?_⟩
  rw [hdr_bad] at h2
  exact h2
def rhdrE (l : List UInt8) : Int := if rhdrOk l then 0 else 21
set_option maxRecDepth 10000 in
set_option maxHeartbeats 4000000 in
theorem readHeader_any (l : List UInt8) (w : World) (hl : l.length = 128) : Calls Try.prog 68 #[secV l] w fun e w' => e = .returned (.tuple #[.agg (rhdrV l).cells.toArray, .int .i64 (rhdrE l)]) ∧ Below w.heap.size w w' := by
  have hrd := fun w' => rd_header ZH rfl 6 l (rhdr (openL l)).cells.toArray 26 true (decide ((openL l).length < 26)) w' hl (hdr_size _) (hdr_one _)
    (fun w2 => mayHeader_any _ w2)
    (fun w2 g v pb hcr hpb hpg hap => hdr_pr _ (Nat.le_trans (openL_le l) (by decide)) w2 g v pb hcr hpb hpg hap)
  have hok : ((openB l && decide (openK l = 6)) && ((!decide ((openL l).length < 26) && decide (26 = (openL l).length)) && true)) = rhdrOk l := by
    unfold rhdrOk
    have : (!decide ((openL l).length < 26) && decide (26 = (openL l).length)) = decide ((openL l).length = 26) := by
      rw [Bool.eq_iff_iff]; simp; omega
    rw [this, Bool.and_true]
  simp only [hok] at hrd
  have hV : Array.mk (rhdrV l).cells = (if rhdrOk l then (rhdr (openL l)).cells.toArray else ZH) := by unfold rhdrV; split; rfl; exact zHdr_cells
  have hsz : (rhdrV l).cells.toArray.size = 6 := hdr_size _
  have hone : (rhdrV l).cells.toArray.all (·.oneCell') = true := hdr_one _
  have hrd2 : ∀ w', Calls Try.prog 125 #[.int .u8 6, secV l, .func (.func 126) #[] #[], .func (.func 127) #[] #[]] w' fun e w'' => e = .returned (.tuple #[.agg (rhdrV l).cells.toArray, .int .i64 (rhdrE l)]) ∧ Below w'.heap.size w' w'' := fun w' => (hrd w').mono fun e w'' h => by
    refine ⟨?_, h.2⟩
    rw [h.1]
    unfold rhdrE
    rw [← hV]
  have HRD := fun w' => Lib.hid (hrd2 w')
  have HSZ : Hid ((bvs l).toArray.size = 128) := by unfold Hid; rw [secV_size, hl]
  obtain ⟨C, hC⟩ : ∃ C, (rhdrV l).cells.toArray = C := ⟨_, rfl⟩
  obtain ⟨N, hN⟩ : ∃ N, rhdrE l = N := ⟨_, rfl⟩
  simp only [hC, hN] at HRD ⊢
  rw [hC] at hsz hone
  have HS := Lib.hid hsz
  have H1 := Lib.hid hone
  have hB1 : Below w.heap.size w ((w.alloc (.cells (bvs l).toArray 36 (0, 0))).alloc (.cells #[.int .u64 0, .int .u64 0, .int .i64 0, .int .i64 0, .int .i64 0, .int .u32 0] 142 (0, 0))) := ((Below.refl _ _).alloc (Nat.le_refl _) _).alloc (by simp) _
  have hG1 := old_heap (heap_alloc_last w (.cells (bvs l).toArray 36 (0, 0))) ((Below.refl _ _).alloc (Nat.le_refl _) (.cells #[.int .u64 0, .int .u64 0, .int .i64 0, .int .i64 0, .int .i64 0, .int .u32 0] 142 (0, 0)))
  have hT1 := heap_alloc_last (w.alloc (.cells (bvs l).toArray 36 (0, 0))) (.cells #[.int .u64 0, .int .u64 0, .int .i64 0, .int .i64 0, .int .i64 0, .int .u32 0] 142 (0, 0))
  rw [show (w.alloc (.cells (bvs l).toArray 36 (0, 0))).heap.size = w.heap.size + 1 by simp] at hT1
  have HB1 := Lib.hid hB1
  have HG1 := Lib.hid hG1
  have HT1 := Lib.hid hT1
  clear hrd hok hV hrd2 hC hN hsz hone hB1 hG1 hT1 hl
  unfold secV at HRD ⊢
  go_enter Try.func68, Try.ntmps68
  go_upto_region 1 with fail
  revert HB1 HG1 HT1
  generalize (w.alloc (.cells (bvs l).toArray 36 (0, 0))).alloc (.cells _ 142 (0, 0)) = w1
  intro HB1 HG1 HT1
  go_wp2_with (first
    | (refine wpList_load_row rfl 36 (.tmp 1) rfl w.heap.size rfl _ _ _ _ HG1.out Try.underlying36 rfl (by rw [HSZ.out]; exact size_sec) ?_)
    | (go_at_call 125; refine (HRD _).out.mono ?_; rintro e w2 ⟨rfl, hb2⟩; have HT2 := Lib.hid (old_heap HT1.out hb2); have HB2 := Lib.hid (bnext HB1.out hb2); clear hb2)
    | (refine wpList_store_row rfl 142 (.tmp 2) (.tmp 6) rfl (w.heap.size + 1) _ C 142 rfl rfl HT2.out (by rw [HS.out]; exact infoHeader) (by rw [HS.out]; rfl) H1.out ?_))
  have hld := run_loadVar_row (P := Try.prog) (w2.setRow (w.heap.size + 1) C) (w.heap.size + 1) 142 142 C (0, 0) _ (setRow_heap _ _ _ _ _ _ HT2.out) Try.underlying142 (by simp) (by rw [HS.out]; exact infoHeader)
  exact bodyPost_ret (v := .tuple #[.agg C, .int .i64 N]) (results_cell2 Try.results68 rfl rfl hld) rfl ⟨rfl, below_row HB2.out (by omega)⟩
end Go.Proofs.Ytcpfafmkhegckaa
/-
  Codec: the reference's WriteHeader.
-/
namespace Go.Proofs.Ytcpfafmkhegckaa
open Go.RowKit
set_option linter.unusedVariables false
set_option linter.unusedSimpArgs false
set_option linter.unnecessarySimpa false
theorem fit2 (n : Int) (hn : I64 n) : (decide (n < 0) || !fitB 2 n.toNat) = !decide (0 ≤ n ∧ n ≤ 65535) := by
  by_cases h : 0 ≤ n ∧ n ≤ 65535
  · have h1 : fitB 2 n.toNat = true := by
      unfold fitB putOk
      rw [(fitsB_iff _ _ _).2 (by omega), Bool.true_and, decide_eq_true_iff]
      show n.toNat < 65536
      omega
    rw [h1, decide_eq_true h, decide_eq_false (by omega)]; rfl
  · rw [decide_eq_false h]
    by_cases h0 : n < 0
    · rw [decide_eq_true h0]; rfl
    · have h1 : fitB 2 n.toNat = false := by
        unfold fitB putOk
        rw [(fitsB_iff _ _ _).2 (by omega), Bool.true_and, decide_eq_false_iff_not]
        show ¬ n.toNat < 65536
        omega
      rw [h1, Bool.not_false, Bool.or_true]
theorem fit_full (k n : Nat) (hk : 1 ≤ k ∧ k ≤ 8) (h : n < 256 ^ k) : (decide ((n : Int) < 0) || !fitB k (n : Int).toNat) = false := by
  have h1 : fitB k n = true := by
    unfold fitB putOk
    rw [(fitsB_iff _ _ _).2 (by omega), Bool.true_and, decide_eq_true_iff]
    exact h
  rw [Int.toNat_natCast, h1, nat_neg]; rfl
def in16 (n : Int) : Bool := decide (0 ≤ n ∧ n ≤ 65535)
theorem hdr_fit (x : Hdr) (hx : x.Ok) : fBad (hdrL x) = !(in16 x.seg && (in16 x.grp && in16 x.next)) := by
  unfold hdrL in16
  simp only [fBad]
  rw [fit_full 8 _ (by decide) hx.serial, fit_full 8 _ (by decide) hx.seq, fit_full 4 _ (by decide) hx.time, fit2 _ hx.seg, fit2 _ hx.grp, fit2 _ hx.next]
  cases decide (0 ≤ x.seg ∧ x.seg ≤ 65535) <;> cases decide (0 ≤ x.grp ∧ x.grp ≤ 65535) <;> cases decide (0 ≤ x.next ∧ x.next ≤ 65535) <;> rfl
theorem wB_full (k n : Nat) (hk : 1 ≤ k ∧ k ≤ 8) (h : n < 256 ^ k) : wB k n = le k n := by
  unfold wB fitB putOk
  rw [(fitsB_iff _ _ _).2 (by omega), Bool.true_and, if_pos (by rw [decide_eq_true_iff]; exact h)]
end Go.Proofs.Ytcpfafmkhegckaa
/-
  Codec: the reference's WriteSummary.
-/
namespace Go.Proofs.Ytcpfafmkhegckaa
open Go.RowKit
set_option linter.unusedVariables false
set_option linter.unusedSimpArgs false
set_option linter.unnecessarySimpa false
theorem rd_two {w : World} {g : Nat} {t : TypeId} {u v : Value} (h : w.heap[g]? = some (.cells #[u, v] t (0, 0))) (c : Nat) : Rd w (.slice (some ⟨g, 0, none⟩) 2 c) 1 2 [u, v] :=
  ⟨rfl, .inr ⟨_, c, rfl, fun j x hx => by rw [add_at, cell_row h, Nat.zero_add]; simpa using hx⟩⟩
/-- May an entry stand? -/
def entGood (x : Ent5) : Bool := entryMay x && !fBad (entryL x)
def EntGood (x : Ent5) : Prop := (1 ≤ x.kind ∧ x.kind ≤ 6) ∧ x.num ≤ 65535 ∧ (0 ≤ x.idx ∧ x.idx ≤ 65535)
theorem fit2n (n : Nat) : fitB 2 n = decide (n ≤ 65535) := by
  unfold fitB putOk
  rw [(fitsB_iff _ _ _).2 (by omega), Bool.true_and]
  exact decide_eq_decide.2 (by show n < 65536 ↔ n ≤ 65535; omega)
theorem fit1n (n : Nat) : fitB 1 n = decide (n ≤ 255) := by
  unfold fitB putOk
  rw [(fitsB_iff _ _ _).2 (by omega), Bool.true_and]
  exact decide_eq_decide.2 (by show n < 256 ↔ n ≤ 255; omega)
theorem ent_good (x : Ent5) (hx : x.Ok) : entGood x = true ↔ EntGood x := by
  have h2 := fit2 x.idx hx.idx
  have h1 : entryMay x = true → (decide (x.kind < 0) || !fitB 1 x.kind.toNat) = false := fun h => by
    unfold entryMay at h
    rw [decide_eq_true_iff] at h
    obtain ⟨m, hm⟩ : ∃ m : Nat, x.kind = (m : Int) := ⟨x.kind.toNat, by omega⟩
    rw [hm]
    exact fit_full 1 m (by decide) (by show m < 256; omega)
  have h4 := fit_full 4 x.ver (by decide) hx.ver
  have h3 : (decide ((x.num : Int) < 0) || !fitB 2 (x.num : Int).toNat) = !decide (x.num ≤ 65535) := by
    rw [decide_eq_false (by omega), Int.toNat_natCast, fit2n]; rfl
  have hb : fBad (entryL x) = ((decide (x.kind < 0) || !fitB 1 x.kind.toNat) || (!decide (x.num ≤ 65535) || (false || !decide (0 ≤ x.idx ∧ x.idx ≤ 65535)))) := by
    unfold entryL
    simp only [fBad]
    rw [h3, h4, h2]
    simp
  unfold entGood EntGood
  rw [hb]
  cases hm : entryMay x with
  | false =>
    unfold entryMay at hm
    rw [decide_eq_false_iff_not] at hm
    simp
    omega
  | true =>
    rw [h1 hm]
    unfold entryMay at hm
    rw [decide_eq_true_iff] at hm
    simp
    omega
theorem all_good (L : List Ent5) : (L.all entryMay && !fBad (entryAll L)) = L.all entGood := by
  induction L with
  | nil => rfl
  | cons x r ih =>
    have h1 : entryAll (x :: r) = entryL x ++ entryAll r := by simp [entryAll]
    rw [h1, fBad_append, List.all_cons, List.all_cons, ← ih]
    unfold entGood
    cases entryMay x <;> cases fBad (entryL x) <;> cases r.all entryMay <;> cases fBad (entryAll r) <;> rfl
theorem head_bad (x : Smy) (hx : x.Ok) : fBad x.head = !(decide (x.ents.length ≤ 255) && decide (0 ≤ x.next ∧ x.next ≤ 65535)) := by
  have h1 := fit_full 8 x.seq (by decide) hx.seq
  have h2 := fit_full 8 x.first (by decide) hx.first
  have h3 : (decide (flagN x.commit < 0) || !fitB 1 (flagN x.commit).toNat) = false := by cases x.commit <;> decide
  have h4 : (decide ((x.ents.length : Int) < 0) || !fitB 1 (x.ents.length : Int).toNat) = !decide (x.ents.length ≤ 255) := by
    rw [decide_eq_false (by omega), Int.toNat_natCast]
    rw [fit1n]; rfl
  have h5 := fit2 x.next hx.next
  have h6 := fit_full 4 x.time (by decide) hx.time
  unfold Smy.head
  simp only [fBad]
  rw [h1, h2, h3, h4, h5, h6]
  cases decide (x.ents.length ≤ 255) <;> cases decide (0 ≤ x.next ∧ x.next ≤ 65535) <;> rfl
/-- What may be written. -/
theorem sumWr_eq (x : Smy) (hx : x.Ok) : sumWr x = (decide (x.ents.length ≤ 8 ∧ 0 ≤ x.next ∧ x.next ≤ 65535) && x.ents.all entGood) := by
  unfold sumWr sumL entrysMay
  rw [fBad_append, head_bad x hx, ← all_good]
  cases x.ents.all entryMay <;> cases fBad (entryAll x.ents) <;> simp
  rw [Bool.eq_iff_iff]
  simp
  omega
def flagB (c : Bool) : UInt8 := if c then 1 else 0
theorem le_one (n : Nat) (h : n ≤ 255) : le 1 n = [UInt8.ofNat n] := by
  show [UInt8.ofNat (n % 256)] = _
  rw [Nat.mod_eq_of_lt (by omega)]
theorem head_bytes (x : Smy) (hx : x.Ok) (n : Nat) (hl : x.ents.length ≤ 8) (hn : x.next = (n : Int)) (hn2 : n ≤ 65535) : fB x.head = (((le 8 x.seq ++ le 8 x.first) ++ [flagB x.commit, UInt8.ofNat x.ents.length]) ++ le 2 n) ++ le 4 x.time := by
  have h3 : wB 1 (flagN x.commit).toNat = [flagB x.commit] := by cases x.commit <;> decide
  have h4 : wB 1 (x.ents.length : Int).toNat = [UInt8.ofNat x.ents.length] := by rw [Int.toNat_natCast, wB_full 1 _ (by decide) (by show _ < 256; omega), le_one _ (by omega)]
  unfold Smy.head
  simp only [fB]
  rw [h3, h4, hn, Int.toNat_natCast, Int.toNat_natCast, Int.toNat_natCast, Int.toNat_natCast, wB_full 8 _ (by decide) hx.seq, wB_full 8 _ (by decide) hx.first, wB_full 2 n (by decide) (by show n < 65536; omega), wB_full 4 _ (by decide) hx.time]
  simp
theorem ent_bytes (kind num ver idx : Nat) (h1 : kind ≤ 255) (h2 : num ≤ 65535) (h3 : ver < 2 ^ 32) (h4 : idx ≤ 65535) : fB (entryL ⟨(kind : Int), num, ver, (idx : Int)⟩) = (([UInt8.ofNat kind] ++ le 2 num) ++ le 4 ver) ++ le 2 idx := by
  unfold entryL
  simp only [fB, Int.toNat_natCast]
  rw [wB_full 1 _ (by decide) (by show _ < 256; omega), wB_full 2 num (by decide) (by show _ < 65536; omega), wB_full 4 _ (by decide) h3, wB_full 2 idx (by decide) (by show _ < 65536; omega), le_one _ h1]
  simp
theorem bvs_ofNat (n : Nat) (h : n ≤ 255) : [Value.int .u8 (n : Int)] = bvs [UInt8.ofNat n] := by
  have : (UInt8.ofNat n).toNat = n := by simp; omega
  simp [bvs, bval, this]
theorem bvs_flag (c : Bool) (n : Nat) (h : n ≤ 255) : [Value.int .u8 (flagN c), Value.int .u8 (n : Int)] = bvs [flagB c, UInt8.ofNat n] := by
  have : (UInt8.ofNat n).toNat = n := by simp; omega
  cases c <;> simp [bvs, bval, this, flagN, flagB]
theorem side_keep {w w' : World} {p : Nat} {v : Value} {ob : Obj} (h : w.heap[p]? = some ob) (hv : v.ownBlock ≠ some p) (hg : w.grownBy w' v.ownBlock) : w'.heap[p]? = some ob :=
  (hg.block p (Array.getElem?_eq_some_iff.1 h).1 (fun e => hv e.symm)).trans h
theorem side_own {w : World} {p : Nat} {v v' : Value} {ob : Obj} (h : w.heap[p]? = some ob) (hv : v.ownBlock ≠ some p) (hat : v'.ownBlock = v.ownBlock ∨ v'.ownBlock = some w.heap.size) : v'.ownBlock ≠ some p := fun e => by
  have := (Array.getElem?_eq_some_iff.1 h).1
  rcases hat with q | q
  · exact hv (q.symm.trans e)
  · rw [q] at e; cases e; omega
end Go.Proofs.Ytcpfafmkhegckaa
/-
  Codec: summaries turned from the reference's to the program's and back; are they the same?
-/
namespace Go.Proofs.Ytcpfafmkhegckaa
open Go.RowKit
set_option linter.unusedVariables false
set_option linter.unusedSimpArgs false
set_option linter.unnecessarySimpa false
theorem infoRSum : (Try.prog.info? 55).map (·.size) = some 6 := by kernel_rfl
theorem infoREntry3 : (Try.prog.info? 154).map (fun i => (i.zero, i.size, i.bytes)) = some (some (.agg #[.int .i64 0, .int .u32 0, .int .u32 0, .int .i64 0]), 4, 24) := by kernel_rfl
theorem sum_one (x : Smy) (s : Option Addr) (n c : Nat) : (x.cells (.slice s n c)).all (·.oneCell') = true := by simp [Smy.cells, sumF, Value.oneCell']
set_option maxRecDepth 10000 in
set_option maxHeartbeats 8000000 in
theorem lsummary_any (x : Smy) (A : Option Addr) (c : Nat) (w : World) (hR : ReadAt w A Ent5.cells 4 x.ents) (hL : x.ents.length ≤ 1000000) :
    Calls Try.prog 24 #[.agg (x.cells (.slice A x.ents.length c))] w fun e w' => ∃ v', e = .returned (.agg (x.cells v')) ∧ w'.ownsRow w.heap.size 155 4 v' x.ents.length (rowsOf Ent5.cells x.ents) ∧ Below w.heap.size w w' := by
  obtain ⟨seq, first, commit, next, time, L⟩ := x
  dsimp only at hR hL
  have hc : ∀ v, (Smy.mk seq first commit next time L).cells v = #[.int .u64 (seq : Int), .int .u64 (first : Int), .bool commit, .int .i64 next, .int .u32 (time : Int), v] := fun v => rfl
  simp only [hc]
  clear hc
  have hA := a3 w (.cells #[.int .u64 (seq : Int), .int .u64 (first : Int), .bool commit, .int .i64 next, .int .u32 (time : Int), .slice A L.length c] 55 (0, 0)) (.cells #[.int .u64 0, .int .u64 0, .bool false, .int .i64 0, .int .u32 0, .slice none 0 0] 65 (0, 0)) (.cells #[.int .u64 (seq : Int), .int .u64 (first : Int), .bool commit, .int .i64 next, .int .u32 (time : Int), .slice none 0 0] 65 (0, 0))
  have hR3 := hR.below Ent5.cells_len hA.bel
  have hsz : (((w.alloc (.cells #[.int .u64 (seq : Int), .int .u64 (first : Int), .bool commit, .int .i64 next, .int .u32 (time : Int), .slice A L.length c] 55 (0, 0))).alloc (.cells #[.int .u64 0, .int .u64 0, .bool false, .int .i64 0, .int .u32 0, .slice none 0 0] 65 (0, 0))).alloc (.cells #[.int .u64 (seq : Int), .int .u64 (first : Int), .bool commit, .int .i64 next, .int .u32 (time : Int), .slice none 0 0] 65 (0, 0))).heap.size = w.heap.size + 1 + 1 + 1 := by simp
  have HA := Lib.hid hA
  have HR := Lib.hid hR3
  have HR0 := Lib.hid hR
  have HSZ := Lib.hid hsz
  clear hA hR3 hsz hR
  go_enter Try.func24, Try.ntmps24
  go_upto_region 2 with fail
  revert HA HR HSZ
  generalize ((w.alloc (.cells #[.int .u64 (seq : Int), .int .u64 (first : Int), .bool commit, .int .i64 next, .int .u32 (time : Int), .slice A L.length c] 55 (0, 0))).alloc (.cells #[.int .u64 0, .int .u64 0, .bool false, .int .i64 0, .int .u32 0, .slice none 0 0] 65 (0, 0))).alloc (.cells #[.int .u64 (seq : Int), .int .u64 (first : Int), .bool commit, .int .i64 next, .int .u32 (time : Int), .slice none 0 0] 65 (0, 0)) = w3
  intro HA HR HSZ
  have c5 : w3.cell? ⟨w.heap.size, 5, none⟩ = some (.slice A L.length c) := cell_row HA.out.h0 5
  go_wp2
  clear c5
  have hst : w3.ownsRow w3.heap.size 155 4 (.slice none 0 0) 0 (rowsOf Ent5.cells (L.take 0)) := own_nilk _ _ _ _
  have HST := Lib.hid hst
  clear hst
  go_loopw [20] (fun i wr => ∃ (k : Nat) (v : Value), k ≤ L.length ∧ i = .int .i64 (k : Int) ∧ Hid (wr.heap[w.heap.size + 1 + 1]? = some (.cells #[.int .u64 (seq : Int), .int .u64 (first : Int), .bool commit, .int .i64 next, .int .u32 (time : Int), v] 65 (0, 0))) ∧ Hid (wr.ownsRow w3.heap.size 155 4 v k (rowsOf Ent5.cells (L.take k))) ∧ Hid (Below (w.heap.size + 1 + 1) w3 wr)) (fun i _ => (L.length - intOf i).toNat)
  case atStart => exact ⟨0, _, by omega, rfl, Lib.hid HA.out.h2, HST, Lib.hid (Below.refl _ _)⟩
  case round =>
    clear HST
    obtain ⟨k, v, hk, rfl, HX, HO, HB⟩ := hrel
    obtain ⟨so, co, rfl⟩ := own_slice1 HO.out
    have hwz : w3.heap.size ≤ wr.heap.size := HB.out.size
    by_cases hlt : k < L.length
    · obtain ⟨x, hx⟩ : ∃ x, L[k]? = some x := ⟨_, List.getElem?_eq_getElem hlt⟩
      obtain ⟨b, o, rfl, hr⟩ := rows_at Ent5.cells_len HR.out hx
      have hbl : b < w.heap.size + 1 + 1 := by
        obtain ⟨b2, o2, e9, hr0⟩ := rows_at Ent5.cells_len HR0.out hx
        cases e9
        have := World.block_lt_of_cell? w ⟨b, o + k * 4 + 0, none⟩ (hr0 0 _ rfl)
        dsimp only at this
        omega
      have hr2 : wr.rangeAt b (o + k * 4) x.cells := fun j u hu => (HB.out.cell (p := ⟨b, o + k * 4 + j, none⟩) hbl).trans (hr j u hu)
      have HXX := Lib.hid hx
      have hlti : (k : Int) < (L.length : Int) := by omega
      obtain ⟨y0, y1, y2, y3⟩ := x
      have e0 : wr.cell? ⟨b, o + k * 4, none⟩ = some (.int .i64 y0) := hr2 0 _ rfl
      have e1 : wr.cell? ⟨b, o + k * 4 + 1, none⟩ = some (.int .u32 (y1 : Int)) := hr2 1 _ rfl
      have e2 : wr.cell? ⟨b, o + k * 4 + 2, none⟩ = some (.int .u32 (y2 : Int)) := hr2 2 _ rfl
      have e3 : wr.cell? ⟨b, o + k * 4 + 3, none⟩ = some (.int .i64 y3) := hr2 3 _ rfl
      clear hr hr2 hx
      go_upto_region 5 with fail
      have hba : Below wr.heap.size wr (wr.alloc (.cells #[.int .i64 y0, .int .u32 (y1 : Int), .int .u32 (y2 : Int), .int .i64 y3] 154 (0, 0))) := (Below.refl _ _).alloc (Nat.le_refl _) _
      have hE := heap_alloc_last wr (.cells #[.int .i64 y0, .int .u32 (y1 : Int), .int .u32 (y2 : Int), .int .i64 y3] 154 (0, 0))
      have hXa := old_heap HX.out hba
      have hOa := own_below HO.out hba
      have hBa := HB.out.trans (hba.mono (by have := HSZ.out; omega))
      have hza : (wr.alloc (.cells #[.int .i64 y0, .int .u32 (y1 : Int), .int .u32 (y2 : Int), .int .i64 y3] 154 (0, 0))).heap.size = wr.heap.size + 1 := by simp
      clear hba e0 e1 e2 e3
      revert hE hXa hOa hBa hza
      generalize wr.alloc (.cells #[.int .i64 y0, .int .u32 (y1 : Int), .int .u32 (y2 : Int), .int .i64 y3] 154 (0, 0)) = wa
      generalize hpe : wr.heap.size = pe
      intro hE hXa hOa hBa hza
      have f0 : wa.cell? ⟨pe, 0, none⟩ = some (.int .i64 y0) := cell_row hE 0
      have f1 : wa.cell? ⟨pe, 1, none⟩ = some (.int .u32 (y1 : Int)) := cell_row hE 1
      have f2 : wa.cell? ⟨pe, 2, none⟩ = some (.int .u32 (y2 : Int)) := cell_row hE 2
      have f3 : wa.cell? ⟨pe, 3, none⟩ = some (.int .i64 y3) := cell_row hE 3
      have f5 : wa.cell? ⟨w.heap.size + 1 + 1, 5, none⟩ = some (.slice so k co) := cell_row hXa 5
      have hbb : Below wa.heap.size wa (wa.alloc (.cells #[.int .i64 y0, .int .u32 (y1 : Int), .int .u32 (y2 : Int), .int .i64 y3] 155 (0, 0))) := (Below.refl _ _).alloc (Nat.le_refl _) _
      have hrd := rd_row (cs := [.int .i64 y0, .int .u32 (y1 : Int), .int .u32 (y2 : Int), .int .i64 y3]) (heap_alloc_last wa (.cells (([.int .i64 y0, .int .u32 (y1 : Int), .int .u32 (y2 : Int), .int .i64 y3] : List Value)).toArray 155 (0, 0))) rfl 1
      have HRD := Lib.hid hrd
      have HOA := Lib.hid (own_below hOa hbb)
      have HBA := Lib.hid (hBa.trans (hbb.mono (by have := HSZ.out; omega)))
      have HXA := Lib.hid (old_heap hXa hbb)
      have HZA : Hid (w3.heap.size ≤ (wa.alloc (.cells #[.int .i64 y0, .int .u32 (y1 : Int), .int .u32 (y2 : Int), .int .i64 y3] 155 (0, 0))).heap.size) := Lib.hid (by rw [World.size_alloc]; omega)
      clear hbb hrd hE hXa hOa hBa hza HX HO HB
      go_wp2_with (at_builtin; go_must (refine wpList_append_rd _ rfl (.tmp 25) (.tmp 35) 63 rfl w3.heap.size 155 (.agg #[.int .i64 0, .int .u32 0, .int .u32 0, .int .i64 0]) 4 24 Try.underlying63 infoEntry3 rfl (by decide) _ _ _ rfl HOA.out _ 1 [.int .i64 y0, .int .u32 (y1 : Int), .int .u32 (y2 : Int), .int .i64 y3] rfl HRD.out ?c1 ?c2 (by decide) HZA.out ?_; (case c1 => intro u hu; simp only [List.mem_cons, List.not_mem_nil, or_false] at hu; rcases hu with rfl | rfl | rfl | rfl <;> rfl); (case c2 => omega); intro v5 w5 hown5 hbel5 hg5; obtain ⟨s5, c5, rfl⟩ := own_slice1 hown5; have HO5 := Lib.hid hown5; have HB5 := Lib.hid (HBA.out.trans (hbel5.mono (by have := HSZ.out; omega))); have hh5 := (hbel5.block (w.heap.size + 1 + 1) (by have := HSZ.out; omega)).trans HXA.out; have HH5 := Lib.hid hh5; have q5 : w5.cell? ⟨w.heap.size + 1 + 1, 5, none⟩ = some (.slice so k co) := cell_row hh5 5; have r5 := free_row hh5 5; clear hown5 hbel5 hg5 hh5))
      have HX6 : Hid ((w5.setCell ⟨w.heap.size + 1 + 1, 5, none⟩ (.slice s5 (k + 1) c5)).heap[w.heap.size + 1 + 1]? = some (.cells #[.int .u64 (seq : Int), .int .u64 (first : Int), .bool commit, .int .i64 next, .int .u32 (time : Int), .slice s5 (k + 1) c5] 65 (0, 0))) := Lib.hid (by have := head_set HH5.out 5 (.slice s5 (k + 1) c5); simpa using this)
      have HO6 : Hid ((w5.setCell ⟨w.heap.size + 1 + 1, 5, none⟩ (.slice s5 (k + 1) c5)).ownsRow w3.heap.size 155 4 (.slice s5 (k + 1) c5) (k + 1) (rowsOf Ent5.cells (L.take (k + 1)))) := Lib.hid (by
        obtain ⟨hk3, e3⟩ := List.getElem?_eq_some_iff.1 HXX.out
        rw [List.take_succ_eq_append_getElem hk3, e3, rowsOf_snoc]
        exact own_move HO5.out (fun j hj => Below.heap_setCell _ _ _ _ (by have := (HO5.out.lt j hj).1; have := HSZ.out; show j ≠ w.heap.size + 1 + 1; omega)))
      have HB6 := Lib.hid (HB5.out.setCell (p := ⟨w.heap.size + 1 + 1, 5, none⟩) (Nat.le_refl _) (.slice s5 (k + 1) c5))
      clear HO5 HB5 HH5
      go_roundw
      case rel => exact ⟨k + 1, _, by omega, by go_num, HX6, HO6, HB6⟩
      case measure => simp [intOf]; omega
    · obtain rfl : k = L.length := by omega
      have hge : ¬ (L.length : Int) < (L.length : Int) := by omega
      have ho := HO.out
      rw [List.take_length] at ho
      have HOF := Lib.hid ho
      have hv1 : (#[.int .u64 (seq : Int), .int .u64 (first : Int), .bool commit, .int .i64 next, .int .u32 (time : Int), .slice so L.length co] : Array Value).all (·.oneCell') = true := by simp [Value.oneCell']
      obtain ⟨V, hV⟩ : ∃ V : Array Value, #[.int .u64 (seq : Int), .int .u64 (first : Int), .bool commit, .int .i64 next, .int .u32 (time : Int), .slice so L.length co] = V := ⟨_, rfl⟩
      have hVs : V.size = 6 := by rw [← hV]; rfl
      rw [hV] at hv1
      have hx6 := HX.out
      rw [hV] at hx6
      have HXX := Lib.hid hx6
      have HVE := Lib.hid hV
      have HVS := Lib.hid hVs
      have HV1 := Lib.hid hv1
      have HT := Lib.hid ((HB.out.block (w.heap.size + 1) (by omega)).trans HA.out.h1)
      have HBE := Lib.hid (HA.out.bel.trans (HB.out.mono (by omega)))
      clear ho hv1 hV hVs hx6 HX HO HB
      go_wp2_with (first
        | (refine wpList_load_row rfl 65 (.tmp 3) rfl (w.heap.size + 1 + 1) rfl _ _ _ _ HXX.out Try.underlying65 rfl (by rw [HVS.out]; exact infoSummary) ?_)
        | (refine wpList_store_row rfl 65 (.tmp 2) (.tmp 39) rfl (w.heap.size + 1) _ V 65 rfl rfl HT.out (by rw [HVS.out]; exact infoSummary) (by rw [HVS.out]; rfl) HV1.out ?_))
      have hld := run_loadVar_row (P := Try.prog) (wr.setRow (w.heap.size + 1) V) (w.heap.size + 1) 65 65 V (0, 0) _ (setRow_heap _ _ _ _ _ _ HT.out) Try.underlying65 (by simp) (by rw [HVS.out]; exact infoSummary)
      exact bodyPost_ret (results_cell1 Try.results24 rfl hld) rfl ⟨_, by rw [HVE.out], own_setRow HOF.out (by have := HSZ.out; omega) (by have := HSZ.out; omega), below_row HBE.out (by omega)⟩
theorem eq_ent (w : World) (x : Ent5) : (Op.equalIn 10000 154 (.agg x.cells.toArray) (.agg x.cells.toArray)).run Try.prog w = .ok true w := by
  have hu := Try.underlying154
  have hf : Try.prog.underlying 154 = some (.struct (Try.prog.fieldsOf 154)) := by unfold Program.fieldsOf; rw [hu]
  rw [run_equalIn_struct w 9999 _ _ _ hf (by kernel_rfl)]
  unfold Program.fieldsOf
  rw [hu]
  simp only [Op.eqFields]
  obtain ⟨kind, num, ver, idx⟩ := x
  have hc : (Ent5.mk kind num ver idx).cells.toArray = #[.int .i64 kind, .int .u32 (num : Int), .int .u32 (ver : Int), .int .i64 idx] := rfl
  rw [hc]
  go_simp
end Go.Proofs.Ytcpfafmkhegckaa
/-
  Codec: the reference's ReadHeader.
-/
namespace Go.Proofs.Ytcpfafmkhegckaa
open Go.RowKit
set_option linter.unusedVariables false
set_option linter.unusedSimpArgs false
set_option linter.unnecessarySimpa false
theorem set6 {w : World} {p : Nat} {t : TypeId} {f : Nat × Nat} {x0 x1 x2 x3 x4 x5 : Value} (h : w.heap[p]? = some (.cells #[x0, x1, x2, x3, x4, x5] t f)) (a0 a1 a2 a3 a4 a5 : Value) :
    (((((w.setCell ⟨p, 0, none⟩ a0).setCell ⟨p, 1, none⟩ a1).setCell ⟨p, 2, none⟩ a2).setCell ⟨p, 3, none⟩ a3).setCell ⟨p, 4, none⟩ a4).setCell ⟨p, 5, none⟩ a5 = w.setRow p #[a0, a1, a2, a3, a4, a5] := by
  rw [setCell_row h]
  repeat rw [setRow_setCell h]
  simp only [List.setIfInBounds_toArray, List.set_cons_zero, List.set_cons_succ]
/-- What the reference's ReadHeader comes to. -/
def RrH (w : World) (ok : Bool) (x : Hdr) (e : Ending) (w' : World) : Prop := e = .returned (.tuple #[.agg x.cells.toArray, .bool ok]) ∧ Below w.heap.size w w'
theorem rrH_no {w w' : World} {l : List UInt8} {e : Ending} (h : rhdrOk l = false) (he : e = .returned (.tuple #[.agg ZH, .bool false])) (hb : Below w.heap.size w w') : RrH w (rhdrOk l) (rhdrV l) e w' := by
  unfold rhdrV RrH; rw [h, if_neg (by decide), zHdr_cells]; exact ⟨he, hb⟩
end Go.Proofs.Ytcpfafmkhegckaa
/-
  A region that draws its order, by what each of its operations leaves: one goal for each operation, whatever order is drawn.
-/
namespace Go.Proofs.Ytcpfafmkhegckaa
open Go.RowKit
set_option linter.unusedVariables false
section
variable {P : Program} {ops : Array Oper} {Q : Exit → Act → World → Prop} {md : Region.Mode}
/-- Another value at one number. -/
def upd (σ : Nat → Value) (i : Nat) (v : Value) : Nat → Value := fun j => if j = i then v else σ j
theorem upd_same (σ : Nat → Value) (i : Nat) (v : Value) : upd σ i v i = v := by simp [upd]
theorem upd_other (σ : Nat → Value) (i j : Nat) (v : Value) (h : j ≠ i) : upd σ i v j = σ j := by simp [upd, h]
/-- Who writes a slot. -/
def whoOf (ops : Array Oper) (t : Nat) : Option Nat := (List.range ops.size).find? fun i => ((ops[i]?).bind (·.dst)) == some t
def directOf (md : Region.Mode) (ops : Array Oper) (i : Nat) : List Nat := (((ops[i]?).map fun o => (o.after.toList.filter (Region.binds md)).map (·.on)).getD [])
/-- All that stands ahead of one. -/
def aheadOf (md : Region.Mode) (ops : Array Oper) (i : Nat) : List Nat :=
  ((List.range i).reverse.foldl (fun s j => if s.contains j then s ++ (directOf md ops j).filter (fun k => !s.contains k) else s) (directOf md ops i))
/-- Those that may have come up already. -/
def stayOf (md : Region.Mode) (ops : Array Oper) (i : Nat) : List Nat := (List.range ops.size).filter fun j => j != i && !(aheadOf md ops j).contains i
/-- What is asked of a region's text. -/
def regOk (md : Region.Mode) (ops : Array Oper) (n : Nat) : Bool :=
  (List.range ops.size).all fun i => (match (ops[i]?).bind (·.dst) with | some d => whoOf ops d == some i && decide (d < n) | none => true) && (directOf md ops i).all (fun j => decide (j < i))
theorem regOk_dst {n : Nat} (h : regOk md ops n = true) {i d : Nat} (hd : (ops[i]?).bind (·.dst) = some d) : whoOf ops d = some i ∧ d < n := by
  have hi : i < ops.size := by
    rcases Nat.lt_or_ge i ops.size with hlt | hge
    · exact hlt
    · rw [Array.getElem?_eq_none hge] at hd; cases hd
  have := List.all_eq_true.1 h i (by simpa using hi)
  simp only [hd, Bool.and_eq_true, beq_iff_eq, decide_eq_true_eq] at this
  exact this.1
theorem regOk_back {n : Nat} (h : regOk md ops n = true) {i j : Nat} (hj : j ∈ directOf md ops i) : j < i := by
  have hi : i < ops.size := by
    rcases Nat.lt_or_ge i ops.size with hlt | hge
    · exact hlt
    · unfold directOf at hj; rw [Array.getElem?_eq_none hge] at hj; simp at hj
  have := List.all_eq_true.1 h i (by simpa using hi)
  simp only [Bool.and_eq_true] at this
  simpa using List.all_eq_true.1 this.2 j hj
def slotOf (md : Region.Mode) (ops : Array Oper) (a0 : Act) (σ : Nat → Value) (i t : Nat) : Option Value :=
  match whoOf ops t with | some j => if (aheadOf md ops i).contains j then some (σ j) else a0.tmps[t]? | none => a0.tmps[t]?
/-- The frame: what has come up has left its value. -/
structure Filled (ops : Array Oper) (a0 : Act) (l : Array Bool) (σ : Nat → Value) (a : Act) : Prop where
  defers : a.defers = a0.defers
  size : a.tmps.size = a0.tmps.size
  slot : ∀ t, a.tmps[t]? = match whoOf ops t with | some i => if l.getD i false = true then some (σ i) else a0.tmps[t]? | none => a0.tmps[t]?
theorem whoOf_spec {t i : Nat} (h : whoOf ops t = some i) : (ops[i]?).bind (·.dst) = some t := by
  have := List.find?_some h
  simpa using this
theorem whoOf_none {i : Nat} {o : Oper} (ho : ops[i]? = some o) (hd : o.dst = none) (t : Nat) : whoOf ops t ≠ some i := fun h => by
  have := whoOf_spec h
  rw [ho] at this
  simp [hd] at this
theorem Filled.put {a0 : Act} {l : Array Bool} {σ : Nat → Value} {a : Act} {n : Nat} (hn : a0.tmps.size = n) (hk : regOk md ops n = true) (h : Filled ops a0 l σ a) {i : Nat} {o : Oper} (ho : ops[i]? = some o) (hl : i < l.size) (v : Value) :
    Filled ops a0 (l.setIfInBounds i true) (upd σ i v) (a.put o.dst v) := by
  have hget : ∀ k, (l.setIfInBounds i true).getD k false = if k = i then true else l.getD k false := fun k => by
    simp only [Array.getD_eq_getD_getElem?, Array.getElem?_setIfInBounds]
    by_cases hk : k = i
    · subst hk; simp [hl]
    · rw [if_neg (fun e => hk e.symm), if_neg hk]
  cases hd : o.dst with
  | none =>
    refine ⟨h.defers, h.size, fun t => ?_⟩
    show a.tmps[t]? = _
    rw [h.slot t]
    cases hw : whoOf ops t with
    | none => rfl
    | some j =>
      have hne : j ≠ i := fun e => whoOf_none ho hd t (e ▸ hw)
      simp only [hget, if_neg hne, upd_other _ _ _ _ hne]
  | some d =>
    have hb : (ops[i]?).bind (·.dst) = some d := by rw [ho]; exact hd
    obtain ⟨hw0, hlt⟩ := regOk_dst hk hb
    refine ⟨h.defers, by show (a.tmps.setIfInBounds d v).size = _; simpa using h.size, fun t => ?_⟩
    show (a.tmps.setIfInBounds d v)[t]? = _
    rw [Array.getElem?_setIfInBounds]
    by_cases ht : d = t
    · subst ht
      rw [if_pos rfl, hw0, if_pos (by rw [h.size, hn]; exact hlt)]
      simp [hget, upd_same]
    · rw [if_neg ht, h.slot t]
      cases hw : whoOf ops t with
      | none => rfl
      | some j =>
        have hne : j ≠ i := fun e => by
          have := whoOf_spec hw
          rw [e, hb] at this
          exact ht (Option.some.inj this)
        simp only [hget, if_neg hne, upd_other _ _ _ _ hne]
def fillAll (ops : Array Oper) (σ : Nat → Value) (T : Array Value) : Nat → Array Value
  | 0 => T
  | k + 1 => match (ops[k]?).bind (·.dst) with | some d => (fillAll ops σ T k).setIfInBounds d (σ k) | none => fillAll ops σ T k
theorem fillAll_size (ops : Array Oper) (σ : Nat → Value) (T : Array Value) : ∀ k, (fillAll ops σ T k).size = T.size
  | 0 => rfl
  | k + 1 => by
    unfold fillAll
    split
    · simpa using fillAll_size ops σ T k
    · exact fillAll_size ops σ T k
theorem fillAll_get {a0 : Act} {n : Nat} (hn : a0.tmps.size = n) (hk : regOk md ops n = true) (σ : Nat → Value) (t : Nat) : ∀ k, k ≤ ops.size → (fillAll ops σ a0.tmps k)[t]? = match whoOf ops t with | some i => if i < k then some (σ i) else a0.tmps[t]? | none => a0.tmps[t]?
  | 0, _ => by
    unfold fillAll
    split <;> simp
  | k + 1, hle => by
    have ih := fillAll_get hn hk σ t k (by omega)
    unfold fillAll
    split
    · rename_i d hd
      obtain ⟨hw0, hlt⟩ := regOk_dst hk hd
      rw [Array.getElem?_setIfInBounds]
      by_cases ht : d = t
      · subst ht
        rw [if_pos rfl, hw0, if_pos (by rw [fillAll_size, hn]; exact hlt)]
        simp
      · rw [if_neg ht, ih]
        cases hw : whoOf ops t with
        | none => rfl
        | some j =>
          have hne : j ≠ k := fun e => by
            have := whoOf_spec hw
            rw [e, hd] at this
            exact ht (Option.some.inj this)
          simp only []
          by_cases hj : j < k
          · rw [if_pos hj, if_pos (by omega)]
          · rw [if_neg hj, if_neg (by omega)]
    · rename_i hd
      rw [ih]
      cases hw : whoOf ops t with
      | none => rfl
      | some j =>
        have hne : j ≠ k := fun e => by
          have := whoOf_spec hw
          rw [e, hd] at this
          cases this
        simp only []
        by_cases hj : j < k
        · rw [if_pos hj, if_pos (by omega)]
        · rw [if_neg hj, if_neg (by omega)]
/-- All of a list of facts. -/
def AllF (F : Nat → (Nat → Value) → World → Prop) (σ : Nat → Value) (w : World) : List Nat → Prop
  | [] => True
  | i :: r => F i σ w ∧ AllF F σ w r
theorem AllF.of {F : Nat → (Nat → Value) → World → Prop} {σ : Nat → Value} {w : World} : ∀ {is : List Nat}, (∀ i ∈ is, F i σ w) → AllF F σ w is
  | [], _ => trivial
  | i :: r, h => ⟨h i (by simp), AllF.of fun j hj => h j (by simp [hj])⟩
/-- The slots that are looked at. -/
def AllSlots (md : Region.Mode) (ops : Array Oper) (a0 a : Act) (σ : Nat → Value) (i : Nat) : List Nat → Prop
  | [] => True
  | t :: r => a.tmps[t]? = slotOf md ops a0 σ i t ∧ AllSlots md ops a0 a σ i r
theorem AllSlots.of {a0 a : Act} {σ : Nat → Value} {i : Nat} : ∀ {ts : List Nat}, (∀ t ∈ ts, a.tmps[t]? = slotOf md ops a0 σ i t) → AllSlots md ops a0 a σ i ts
  | [], _ => trivial
  | t :: r, h => ⟨h t (by simp), AllSlots.of fun u hu => h u (by simp [hu])⟩
/-- What is to be shown of one operation. -/
def StepOf (P : Program) (ops : Array Oper) (Q : Exit → Act → World → Prop) (md : Region.Mode) (a0 : Act) (S : World → Prop) (F : Nat → (Nat → Value) → World → Prop) (i : Nat) : Prop :=
  ∀ (σ : Nat → Value) (a : Act) (w : World), S w → AllF F σ w (aheadOf md ops i) → (σ i = undef ∧ ∀ j, F j σ w ∨ σ j = undef) → AllSlots md ops a0 a σ i (((ops[i]?).map (fun o => (o.looksAt ops).filter fun t => match whoOf ops t with | some j => (aheadOf md ops i).contains j || (aheadOf md ops j).contains i | none => true)).getD []) →
    ∀ K : Act → World → Prop, Shut (∀ v w', S w' → F i (upd σ i v) w' → (∀ j ∈ stayOf md ops i, F j σ w → F j (upd σ i v) w') → K (a.put ((ops[i]?).bind (·.dst)) v) w') →
      match ops[i]? with
      | none => True
      | some o => if Region.wanted o (yielded ops a.tmps) = true then Oper.wp P o a w K Q else K (a.put o.dst undef) w
structure InvOf (md : Region.Mode) (ops : Array Oper) (a0 : Act) (S : World → Prop) (F : Nat → (Nat → Value) → World → Prop) (l : Array Bool) (a : Act) (w : World) (σ : Nat → Value) : Prop where
  s : S w
  f : ∀ i, l.getD i false = true → F i σ w
  u : ∀ i, l.getD i false = false → σ i = undef
  fill : Filled ops a0 l σ a
  lsize : l.size = ops.size
  down : ∀ i, l.getD i false = true → ∀ j ∈ directOf md ops i, l.getD j false = true
theorem ready_unlisted {l : Array Bool} {i : Nat} (h : i ∈ Region.ready md ops l) : l.getD i true = false ∧ i < ops.size ∧ ∀ j ∈ directOf md ops i, l.getD j false = true := by
  unfold Region.ready at h
  simp only [List.mem_filter, List.mem_range, Bool.and_eq_true, Bool.not_eq_true'] at h
  obtain ⟨h1, h2, h3⟩ := h
  refine ⟨h2, h1, fun j hj => ?_⟩
  unfold directOf at hj
  cases ho : ops[i]? with
  | none => rw [ho] at hj; simp at hj
  | some o =>
    rw [ho] at h3 hj
    simp only [Option.map_some, Option.getD_some, Array.all_eq_true', Bool.or_eq_true, Bool.not_eq_true', List.mem_map, List.mem_filter, Array.mem_toList_iff] at h3 hj
    obtain ⟨e, ⟨he, hb⟩, rfl⟩ := hj
    rcases h3 e he with h | h
    · rw [hb] at h; cases h
    · exact h
theorem ahead_listed {l : Array Bool} (hdown : ∀ i, l.getD i false = true → ∀ j ∈ directOf md ops i, l.getD j false = true) {i : Nat} (h : ∀ j ∈ directOf md ops i, l.getD j false = true) :
    ∀ j ∈ aheadOf md ops i, l.getD j false = true := by
  unfold aheadOf
  generalize (List.range i).reverse = ks
  generalize directOf md ops i = s at h
  induction ks generalizing s with
  | nil => simpa using h
  | cons k ks ih =>
    rw [List.foldl_cons]
    refine ih _ ?_
    intro j hj
    split at hj
    · rename_i hc
      rcases List.mem_append.1 hj with hj | hj
      · exact h j hj
      · exact hdown k (h k (by simpa using hc)) j (List.mem_filter.1 hj).1
    · exact h j hj
def leftOf (ops : Array Oper) (l : Array Bool) : List Nat := (List.range ops.size).filter fun i => !l.getD i true
theorem left_less {l : Array Bool} {i : Nat} (h : l.getD i true = false) (hi : i < ops.size) : (leftOf ops (l.setIfInBounds i true)).length < (leftOf ops l).length := by
  have e : leftOf ops (l.setIfInBounds i true) = (leftOf ops l).filter (fun j => j != i) := by
    unfold leftOf
    rw [List.filter_filter]
    refine List.filter_congr fun j hj => ?_
    simp only [Array.getD_eq_getD_getElem?, Array.getElem?_setIfInBounds]
    by_cases hji : j = i
    · subst hji
      simp
      split <;> simp
    · rw [if_neg (fun e => hji e.symm)]; simp [hji]
  rw [e]
  refine List.length_filter_lt_length_iff_exists.2 ⟨i, ?_, by simp⟩
  unfold leftOf
  exact List.mem_filter.2 ⟨by simpa using hi, by rw [h]; rfl⟩
theorem ready_nil {n : Nat} (hk : regOk md ops n = true) {l : Array Bool} (hls : l.size = ops.size) (h : Region.ready md ops l = []) : ∀ i, i < ops.size → l.getD i false = true := by
  intro i
  induction i using Nat.strongRecOn with
  | ind i ih =>
    intro hi
    cases hc : l.getD i false with
    | true => rfl
    | false =>
      exfalso
      have hmem : i ∈ Region.ready md ops l := by
        unfold Region.ready
        simp only [List.mem_filter, List.mem_range, Bool.and_eq_true, Bool.not_eq_true']
        refine ⟨hi, ?_, ?_⟩
        · have hlt : i < l.size := by omega
          simp only [Array.getD_eq_getD_getElem?, Array.getElem?_eq_getElem hlt, Option.getD_some] at hc ⊢
          exact hc
        · obtain ⟨o, ho⟩ : ∃ o, ops[i]? = some o := ⟨ops[i], by simp [hi]⟩
          rw [ho]
          simp only [Option.map_some, Option.getD_some, Array.all_eq_true', Bool.or_eq_true, Bool.not_eq_true']
          intro e he
          cases hb : Region.binds md e with
          | false => left; rfl
          | true =>
            right
            have hd : e.on ∈ directOf md ops i := by
              unfold directOf
              rw [ho]
              simp only [Option.map_some, Option.getD_some, List.mem_map, List.mem_filter, Array.mem_toList_iff]
              exact ⟨e, ⟨he, hb⟩, rfl⟩
            have hlt := regOk_back hk hd
            exact ih _ hlt (by omega)
      rw [h] at hmem
      cases hmem
theorem wpAny_inv {a0 : Act} {n : Nat} {S : World → Prop} {F : Nat → (Nat → Value) → World → Prop} (hn : a0.tmps.size = n) (hk : regOk md ops n = true)
    (hstep : ∀ i, i < ops.size → StepOf P ops Q md a0 S F i)
    (hend : ∀ σ w, S w → (∀ i, i < ops.size → F i σ w) → Q .normal ⟨fillAll ops σ a0.tmps ops.size, a0.defers⟩ w) :
    ∀ (fuel : Nat) (l : Array Bool) (a : Act) (w : World) (σ : Nat → Value), (leftOf ops l).length ≤ fuel → InvOf md ops a0 S F l a w σ → wpAny P md ops Q fuel l a w := by
  have hfin : ∀ (l : Array Bool) (a : Act) (w : World) (σ : Nat → Value), InvOf md ops a0 S F l a w σ → Region.ready md ops l = [] → Q .normal a w := by
    intro l a w σ hI hr
    have hall := ready_nil hk hI.lsize hr
    have hq := hend σ w hI.s (fun i hi => hI.f i (hall i hi))
    have e : a = ⟨fillAll ops σ a0.tmps ops.size, a0.defers⟩ := by
      obtain ⟨T, D⟩ := a
      have h1 : D = a0.defers := hI.fill.defers
      subst h1
      congr 1
      apply Array.ext_getElem?
      intro t
      rw [hI.fill.slot t, fillAll_get hn hk σ t ops.size (Nat.le_refl _)]
      cases hw : whoOf ops t with
      | none => rfl
      | some i =>
        have hi : i < ops.size := by
          rcases Nat.lt_or_ge i ops.size with hlt | hge
          · exact hlt
          · have := whoOf_spec hw; rw [Array.getElem?_eq_none hge] at this; cases this
        simp [hall i hi, hi]
    rw [e]; exact hq
  intro fuel
  induction fuel with
  | zero =>
    intro l a w σ hle hI
    have hnil : Region.ready md ops l = [] := by
      cases hr : Region.ready md ops l with
      | nil => rfl
      | cons i r =>
        have hi : i ∈ Region.ready md ops l := by rw [hr]; simp
        have := ready_unlisted hi
        have hm : i ∈ leftOf ops l := by unfold leftOf; exact List.mem_filter.2 ⟨by simpa using this.2.1, by rw [this.1]; rfl⟩
        have := List.length_pos_of_mem hm
        omega
    exact ⟨hnil, hfin l a w σ hI hnil⟩
  | succ fuel ih =>
    intro l a w σ hle hI
    refine ⟨hfin l a w σ hI, fun i hi => ?_⟩
    obtain ⟨hl, his, hdir⟩ := ready_unlisted hi
    obtain ⟨o, ho⟩ : ∃ o, ops[i]? = some o := ⟨ops[i], by simp [his]⟩
    have hah := ahead_listed hI.down hdir
    have hls : i < l.size := by rw [hI.lsize]; exact his
    have hget : ∀ k, (l.setIfInBounds i true).getD k false = if k = i then true else l.getD k false := fun k => by
      simp only [Array.getD_eq_getD_getElem?, Array.getElem?_setIfInBounds]
      by_cases hk : k = i
      · subst hk; simp [hls]
      · rw [if_neg (fun e => hk e.symm), if_neg hk]
    have hst := hstep i his σ a w hI.s (AllF.of fun j hj => hI.f j (hah j hj))
      ⟨hI.u i (by simp only [Array.getD_eq_getD_getElem?, Array.getElem?_eq_getElem hls, Option.getD_some] at hl ⊢; exact hl), fun j => by
        cases hj : l.getD j false with
        | true => exact .inl (hI.f j hj)
        | false => exact .inr (hI.u j hj)⟩
      (by
        rw [ho]
        refine AllSlots.of fun t ht => ?_
        simp only [Option.map_some, Option.getD_some, List.mem_filter] at ht
        rw [hI.fill.slot t]
        unfold slotOf
        cases hw : whoOf ops t with
        | none => rfl
        | some j =>
          have h2 := ht.2
          rw [hw] at h2
          simp only [Bool.or_eq_true] at h2
          by_cases hc : (aheadOf md ops i).contains j = true
          · have := hah j (by simpa using hc)
            simp only [this, hc, if_true]
          · have h3 := h2.resolve_left hc
            have hlj : l.getD j false = false := by
              cases hlj : l.getD j false with
              | false => rfl
              | true =>
                have h4 := ahead_listed hI.down (hI.down j hlj) i (by simpa using h3)
                simp only [Array.getD_eq_getD_getElem?, Array.getElem?_eq_getElem hls, Option.getD_some] at h4 hl
                rw [h4] at hl; cases hl
            simp only [hlj, hc, if_false, Bool.false_eq_true])
    rw [ho] at hst
    refine wpOp_step ho fun K hK => hst K fun v w' hS hF hpres => hK _ _ ?_
    refine ih _ _ _ (upd σ i v) ?_ ?_
    · have := left_less (ops := ops) hl his
      omega
    · refine ⟨hS, fun j hj => ?_, fun j hj => ?_, ?_, by simpa using hI.lsize, fun j hj k hkd => ?_⟩
      · by_cases hji : j = i
        · subst hji; exact hF
        · rw [hget, if_neg hji] at hj
          have hjs : j < ops.size := by
            rcases Nat.lt_or_ge j ops.size with hlt | hge
            · exact hlt
            · have : l.getD j false = false := by
                simp only [Array.getD_eq_getD_getElem?]
                rw [Array.getElem?_eq_none (by rw [hI.lsize]; exact hge)]; rfl
              rw [this] at hj; cases hj
          refine hpres j ?_ (hI.f j hj)
          unfold stayOf
          simp only [List.mem_filter, List.mem_range, Bool.and_eq_true, bne_iff_ne, ne_eq, Bool.not_eq_true']
          refine ⟨hjs, hji, ?_⟩
          cases hc : (aheadOf md ops j).contains i with
          | false => rfl
          | true =>
            have h4 := ahead_listed hI.down (hI.down j hj) i (by simpa using hc)
            simp only [Array.getD_eq_getD_getElem?, Array.getElem?_eq_getElem hls, Option.getD_some] at h4 hl
            rw [h4] at hl; cases hl
      · by_cases hji : j = i
        · subst hji; rw [hget, if_pos rfl] at hj; cases hj
        · rw [hget, if_neg hji] at hj
          rw [upd_other _ _ _ _ hji]
          exact hI.u j hj
      · have := hI.fill.put hn hk ho hls v
        simpa [ho] using this
      · rw [hget]
        by_cases hki : k = i
        · rw [if_pos hki]
        · rw [if_neg hki]
          by_cases hji : j = i
          · subst hji; exact hdir k hkd
          · rw [hget, if_neg hji] at hj
            exact hI.down j hj k hkd
def looksOf (md : Region.Mode) (ops : Array Oper) (i : Nat) : List Nat := (((ops[i]?).map (fun o => (o.looksAt ops).filter fun t => match whoOf ops t with | some j => (aheadOf md ops i).contains j || (aheadOf md ops j).contains i | none => true)).getD [])
def whoIn (md : Region.Mode) (ops : Array Oper) (i t : Nat) : List Nat := match whoOf ops t with | some j => if (aheadOf md ops i).contains j then [j] else [] | none => []
theorem slotOf_who {a0 : Act} {σ : Nat → Value} {i t j : Nat} (h : whoIn md ops i t = [j]) : slotOf md ops a0 σ i t = some (σ j) := by
  unfold whoIn at h
  unfold slotOf
  cases hw : whoOf ops t with
  | none => rw [hw] at h; cases h
  | some k =>
    rw [hw] at h
    simp only [] at h ⊢
    split at h
    · rename_i hc; rw [if_pos hc]; cases h; rfl
    · cases h
theorem slotOf_none {a0 : Act} {σ : Nat → Value} {i t : Nat} (h : whoIn md ops i t = []) : slotOf md ops a0 σ i t = a0.tmps[t]? := by
  unfold whoIn at h
  unfold slotOf
  cases hw : whoOf ops t with
  | none => rfl
  | some k =>
    rw [hw] at h
    simp only [] at h ⊢
    split at h
    · cases h
    · rename_i hc; rw [if_neg hc]
theorem AllSlots.cons_who {a0 a : Act} {σ : Nat → Value} {i t j : Nat} {r : List Nat} (h : AllSlots md ops a0 a σ i (t :: r)) (hw : whoIn md ops i t = [j]) : a.tmps[t]? = some (σ j) := by rw [h.1]; exact slotOf_who hw
theorem AllSlots.cons_none {a0 a : Act} {σ : Nat → Value} {i t : Nat} {r : List Nat} (h : AllSlots md ops a0 a σ i (t :: r)) (hw : whoIn md ops i t = []) : a.tmps[t]? = a0.tmps[t]? := by rw [h.1]; exact slotOf_none hw
theorem StepOf.intro {P : Program} {ops : Array Oper} {Q : Exit → Act → World → Prop} {md : Region.Mode} {a0 : Act} {S : World → Prop} {F : Nat → (Nat → Value) → World → Prop} {i : Nat} {o : Oper} (ho : ops[i]? = some o) (js ts : List Nat) (hjs : aheadOf md ops i = js) (hts : looksOf md ops i = ts)
    (h : ∀ (σ : Nat → Value) (a : Act) (w : World), S w → AllF F σ w js → (σ i = undef ∧ ∀ j, F j σ w ∨ σ j = undef) → AllSlots md ops a0 a σ i ts →
      ∀ K : Act → World → Prop, Shut (∀ v w', S w' → F i (upd σ i v) w' → (∀ j ∈ stayOf md ops i, F j σ w → F j (upd σ i v) w') → K (a.put o.dst v) w') →
        if Region.wanted o (yielded ops a.tmps) = true then Oper.wp P o a w K Q else K (a.put o.dst undef) w) : StepOf P ops Q md a0 S F i := by
  intro σ a w hS hF hU hA K hK
  subst hjs
  subst hts
  rw [ho]
  exact h σ a w hS hF hU hA K (fun v w' h1 h2 h3 => by have := hK v w' h1 h2 h3; rw [ho] at this; exact this)
def AllSteps (P : Program) (ops : Array Oper) (Q : Exit → Act → World → Prop) (md : Region.Mode) (a0 : Act) (S : World → Prop) (F : Nat → (Nat → Value) → World → Prop) : Nat → Prop
  | 0 => True
  | k + 1 => AllSteps P ops Q md a0 S F k ∧ StepOf P ops Q md a0 S F k
theorem AllSteps.all {P : Program} {ops : Array Oper} {Q : Exit → Act → World → Prop} {md : Region.Mode} {a0 : Act} {S : World → Prop} {F : Nat → (Nat → Value) → World → Prop} : ∀ {m : Nat}, AllSteps P ops Q md a0 S F m → ∀ i, i < m → StepOf P ops Q md a0 S F i
  | 0, _, i, h => by omega
  | k + 1, hh, i, h => by
    by_cases hik : i = k
    · subst hik; exact hh.2
    · exact AllSteps.all hh.1 i (by omega)
def UpF (F : Nat → (Nat → Value) → World → Prop) (σ : Nat → Value) (w : World) : Nat → Prop
  | 0 => True
  | k + 1 => UpF F σ w k ∧ F k σ w
theorem UpF.of {F : Nat → (Nat → Value) → World → Prop} {σ : Nat → Value} {w : World} : ∀ {m : Nat}, (∀ i, i < m → F i σ w) → UpF F σ w m
  | 0, _ => trivial
  | k + 1, h => ⟨UpF.of fun i hi => h i (by omega), h k (by omega)⟩
def AllP (F G : Nat → Prop) : List Nat → Prop
  | [] => True
  | k :: r => (F k → G k) ∧ AllP F G r
theorem AllP.all {F G : Nat → Prop} : ∀ {js : List Nat}, AllP F G js → ∀ j ∈ js, F j → G j
  | [], _, j, h => by cases h
  | k :: r, hh, j, h => by
    rcases List.mem_cons.1 h with rfl | h
    · exact hh.1
    · exact AllP.all hh.2 j h
/-- **THE BEGINNING.** -/
theorem wp_region_inv {id : Nat} {a0 : Act} {w : World} {S : World → Prop} (F : Nat → (Nat → Value) → World → Prop) (n : Nat) (hm : P.follows .mixedOrders = true) (hn : a0.tmps.size = n) (hk : regOk .any ops n = true) (hS : S w.drew)
    (hstep : ∀ i, i < ops.size → StepOf P ops Q .any a0 S F i)
    (hend : ∀ σ w, S w → (∀ i, i < ops.size → F i σ w) → Q .normal ⟨fillAll ops σ a0.tmps ops.size, a0.defers⟩ w) : (Code.region id ops true).wp P Q a0 w := by
  refine wp_region_any hm (wpAny_inv (S := S) (F := F) hn hk hstep hend ops.size _ a0 w.drew (fun _ => undef) ?_ ?_)
  · unfold leftOf
    refine Nat.le_trans (List.length_filter_le _ _) (by simp)
  · have hf : ∀ i, (Array.replicate ops.size false).getD i false = false := fun i => by
      simp only [Array.getD_eq_getD_getElem?, Array.getElem?_replicate]
      split <;> rfl
    refine ⟨hS, fun i hi => ?_, fun _ _ => rfl, ⟨rfl, rfl, fun t => ?_⟩, by simp, fun i hi => ?_⟩
    · rw [hf] at hi; cases hi
    · split
      · simp [hf]
      · rfl
    · rw [hf] at hi; cases hi
theorem wp_region_inv_lit {P : Program} {ops : Array Oper} {Q : Exit → Act → World → Prop} {id : Nat} {a0 : Act} {w : World} {S : World → Prop} (F : Nat → (Nat → Value) → World → Prop) (n m : Nat) (hm : P.follows .mixedOrders = true) (hn : a0.tmps.size = n) (hsz : ops.size = m) (hk : regOk .any ops n = true) (hS : S w.drew)
    (hstep : ∀ Q', AllSteps P ops Q' .any a0 S F m)
    (hend : ∀ σ w', S w' → UpF F σ w' m → Q .normal ⟨fillAll ops σ a0.tmps m, a0.defers⟩ w') : (Code.region id ops true).wp P Q a0 w := by
  subst hsz
  exact wp_region_inv (S := S) F n hm hn hk hS (fun i hi => (hstep Q).all i hi) (fun σ w' h1 h2 => hend σ w' h1 (UpF.of h2))
end
/-- Facts in a list. -/
def nthF : List ((Nat → Value) → World → Prop) → Nat → (Nat → Value) → World → Prop
  | [], _ => fun _ _ => True
  | f :: _, 0 => f
  | _ :: r, i + 1 => nthF r i
theorem AllSlots.get {md : Region.Mode} {ops : Array Oper} {a0 a : Act} {σ : Nat → Value} {i t : Nat} : ∀ {ts : List Nat}, AllSlots md ops a0 a σ i ts → t ∈ ts → a.tmps[t]? = slotOf md ops a0 σ i t
  | [], _, h => by cases h
  | u :: r, hh, h => by
    rcases List.mem_cons.1 h with rfl | h
    · exact hh.1
    · exact AllSlots.get hh.2 h
theorem AllF.get {F : Nat → (Nat → Value) → World → Prop} {σ : Nat → Value} {w : World} {j : Nat} : ∀ {is : List Nat}, AllF F σ w is → j ∈ is → F j σ w
  | [], _, h => by cases h
  | u :: r, hh, h => by
    rcases List.mem_cons.1 h with rfl | h
    · exact hh.1
    · exact AllF.get hh.2 h
/-- One operation's step, its lists written out: those ahead, the slots that it looks at, those that may have come up already. -/
theorem StepOf.introL {P : Program} {ops : Array Oper} {Q : Exit → Act → World → Prop} {md : Region.Mode} {a0 : Act} {S : World → Prop} {F : Nat → (Nat → Value) → World → Prop} {i : Nat} {o : Oper} (ho : ops[i]? = some o) (d : Option Tmp) (hd : o.dst = d) (js ts ps : List Nat)
    (hjs : (js.all (fun j => (aheadOf md ops i).contains j) && ts.all (fun t => (looksOf md ops i).contains t) && (stayOf md ops i).all (fun j => ps.contains j)) = true)
    (h : ∀ (σ : Nat → Value) (a : Act) (w : World), S w → AllF F σ w js → Shut (σ i = undef ∧ ∀ j, F j σ w ∨ σ j = undef) → AllSlots md ops a0 a σ i ts →
      ∀ K : Act → World → Prop, Shut (∀ v w', S w' → F i (upd σ i v) w' → AllP (fun j => F j σ w) (fun j => F j (upd σ i v) w') ps → K (a.put d v) w') →
        if Region.wanted o (yielded ops a.tmps) = true then Oper.wp P o a w K Q else K (a.put d undef) w) : StepOf P ops Q md a0 S F i := by
  subst hd
  simp only [Bool.and_eq_true] at hjs
  obtain ⟨⟨h1, h2⟩, h3⟩ := hjs
  refine StepOf.intro ho _ _ rfl rfl fun σ a w k1 k2 k3 k4 K hK => h σ a w k1 (AllF.of fun j hj => ?_) k3 (AllSlots.of fun t ht => ?_) K fun v w' g1 g2 g3 => hK v w' g1 g2 fun j hj => ?_
  · exact AllF.get k2 (by simpa using List.all_eq_true.1 h1 j hj)
  · exact AllSlots.get k4 (by simpa using List.all_eq_true.1 h2 t ht)
  · exact AllP.all g3 j (by simpa using List.all_eq_true.1 h3 j hj)
theorem heap_lt {w : World} {p : Nat} {o : Obj} (h : w.heap[p]? = some o) : p < w.heap.size := by
  rcases Nat.lt_or_ge p w.heap.size with hl | hg
  · exact hl
  · rw [Array.getElem?_eq_none hg] at h; cases h
theorem heap_below {w w' : World} {p : Nat} {o : Obj} (h : w.heap[p]? = some o) (hb : Below w.heap.size w w') : w'.heap[p]? = some o := (hb.block p (heap_lt h)).trans h
theorem heap_alloc {w : World} {p : Nat} {o : Obj} (h : w.heap[p]? = some o) (o' : Obj) : (w.alloc o').heap[p]? = some o := (Below.heap_alloc w o' p (heap_lt h)).trans h
theorem heap_set {w : World} {p : Nat} {o : Obj} (h : w.heap[p]? = some o) {a : Addr} (hne : p ≠ a.block) (v : Value) : (w.setCell a v).heap[p]? = some o := (Below.heap_setCell w a v p hne).trans h
theorem heap_new (w : World) (o : Obj) : (w.alloc o).heap[w.heap.size]? = some o := by show (w.heap.push o)[w.heap.size]? = some o; simp only [Array.getElem?_push_size]
end Go.Proofs.Ytcpfafmkhegckaa
/-
  Codec: the reference's ReadSummary.
-/
namespace Go.Proofs.Ytcpfafmkhegckaa
open Go.RowKit
set_option linter.unusedVariables false
set_option linter.unusedSimpArgs false
set_option linter.unnecessarySimpa false
theorem built_rsum : Try.prog.built 55 [] = some #[.int .u64 0, .int .u64 0, .bool false, .int .i64 0, .int .u32 0, .slice none 0 0] := by kernel_rfl
/-- When the reference reads a summary of a body. -/
def b16 (b : List UInt8) : Nat := (b.getD 16 0).toNat
def b17 (b : List UInt8) : Nat := (b.getD 17 0).toNat
def sumOk4 (b : List UInt8) : Prop := 24 ≤ b.length ∧ b16 b ≤ 1 ∧ b.length = 24 + 9 * b17 b
instance (b : List UInt8) : Decidable (sumOk4 b) := by unfold sumOk4; infer_instance
def sumRefOk (l : List UInt8) : Bool := (openB l && decide (openK l = 3)) && (decide (sumOk4 (openL l)) && ((entrys (openL l) 24 (b17 (openL l))).all entryMay && decide (b17 (openL l) ≤ 8)))
/-- What the reference's ReadSummary comes to: where it is no summary, any value. -/
def RrSum (w : World) (l : List UInt8) (e : Ending) (w' : World) : Prop :=
  ∃ x v', e = .returned (.tuple #[.agg (Smy.cells x v'), .bool (sumRefOk l)]) ∧ (sumRefOk l = true → x = rsum (openL l) (b17 (openL l)) ∧ w'.ownsRow w.heap.size 154 4 v' x.ents.length (rowsOf Ent5.cells x.ents)) ∧ Below w.heap.size w w' ∧ v'.oneCell' = true
theorem rrSum_no {w w' : World} {l : List UInt8} {e : Ending} (h : sumRefOk l = false) (he : e = .returned (.tuple #[.agg #[.int .u64 0, .int .u64 0, .bool false, .int .i64 0, .int .u32 0, .slice none 0 0], .bool false])) (hb : Below w.heap.size w w') : RrSum w l e w' := by
  refine ⟨sumNone, .slice none 0 0, ?_, fun h' => ?_, hb, rfl⟩
  · rw [h]; exact he
  · rw [h] at h'; cases h'
theorem rrSum_all {w w' : World} {l b : List UInt8} {e : Ending} {v' : Value} (hb : openL l = b) (he : e = .returned (.tuple #[.agg (Smy.cells (rsum b (b17 b)) v'), .bool (sumRefOk l)])) (ho : w'.ownsRow w.heap.size 154 4 v' (b17 b) (rowsOf Ent5.cells (entrys b 24 (b17 b)))) (hbl : Below w.heap.size w w') : RrSum w l e w' := by
  refine ⟨_, v', he, fun _ => ⟨by rw [hb], ?_⟩, hbl, by obtain ⟨s, c, rfl⟩ := own_slice1 ho; rfl⟩
  show World.ownsRow _ _ _ _ _ (entrys b 24 (b17 b)).length _
  rw [entrys_len]
  exact ho
theorem getD_part (b : List UInt8) (a : Nat) (h : a + 1 ≤ b.length) : rN b a 1 = (b.getD a 0).toNat := by
  rw [rN_part b a 1 (by decide) h]
  unfold part
  have : (b.drop a).take 1 = [b.getD a 0] := by
    have h1 : a < b.length := by omega
    rw [List.drop_eq_getElem_cons h1, List.take_succ_cons, List.take_zero, List.getD_eq_getElem?_getD, List.getElem?_eq_getElem h1]
    rfl
  rw [this]
  simp [leNat]
theorem set4 {w : World} {p : Nat} {t : TypeId} {f : Nat × Nat} {x0 x1 x2 x3 : Value} (h : w.heap[p]? = some (.cells #[x0, x1, x2, x3] t f)) (a0 a1 a2 a3 : Value) :
    (((w.setCell ⟨p, 0, none⟩ a0).setCell ⟨p, 1, none⟩ a1).setCell ⟨p, 2, none⟩ a2).setCell ⟨p, 3, none⟩ a3 = w.setRow p #[a0, a1, a2, a3] := by
  rw [setCell_row h]
  repeat rw [setRow_setCell h]
  simp only [List.setIfInBounds_toArray, List.set_cons_zero, List.set_cons_succ]
theorem keep_row {F : Nat → Prop} {w w' : World} {p : Nat} {cs : Array Value} (h : Keep F w w') (hp : w.heap.size ≤ p) : Keep F w (w'.setRow p cs) :=
  ⟨h.os, h.tape, h.output, by rw [setRow_size]; exact h.size, fun k hk hF => (setRow_other _ _ _ _ (by omega)).trans (h.block k hk hF)⟩
theorem keep_grow {F : Nat → Prop} {a b c : World} (h : Keep F a b) (k : Below a.heap.size b c) : Keep F a c :=
  ⟨k.os.trans h.os, k.tape.trans h.tape, k.output.trans h.output, Nat.le_trans h.size k.size, fun i hi hF => (k.block i hi).trans (h.block i hi hF)⟩
theorem keep_row1 {w w' : World} {p : Nat} {cs : Array Value} (h : Keep (· = p) w w') : Keep (· = p) w (w'.setRow p cs) :=
  ⟨h.os, h.tape, h.output, by rw [setRow_size]; exact h.size, fun k hk hF => (setRow_other _ _ _ _ hF).trans (h.block k hk hF)⟩
theorem rdb_row {w : World} {bk o p : Nat} {b : List UInt8} {cs : Array Value} (h : RdB w bk o b) (hp : bk ≠ p) : RdB (w.setRow p cs) bk o b := fun i hi => by
  have := h i hi
  unfold World.cell? at this ⊢
  rw [setRow_other _ _ _ _ hp]
  exact this
end Go.Proofs.Ytcpfafmkhegckaa
/-
  Codec: a sector turned: some sector.
-/
namespace Go.Proofs.Ytcpfafmkhegckaa
open Go.RowKit
set_option linter.unusedVariables false
set_option linter.unusedSimpArgs false
set_option linter.unnecessarySimpa false
/-- Some sector comes back. -/
def SomeS (w : World) (e : Ending) (w' : World) : Prop := ∃ l : List UInt8, l.length = 128 ∧ e = .returned (secV l) ∧ Below w.heap.size w w'
theorem set_sec {w : World} {g : Nat} {T : TypeId} {l : List UInt8} (h : w.heap[g]? = some (.cells (bvs l).toArray T (0, 0))) (i : Nat) (x : UInt8) : (w.setCell ⟨g, i, none⟩ (.int .u8 (x.toNat : Int))).heap[g]? = some (.cells (bvs (l.set i x)).toArray T (0, 0)) := by
  have := head_set h i (bval x)
  rw [List.setIfInBounds_toArray, bvs_set] at this
  exact this
theorem cast_shr (c k : Nat) : ((UInt8.ofNat (c / 2 ^ k % 256)).toNat : Int) = (c : Int) / 2 ^ k % 256 := by
  have h : (UInt8.ofNat (c / 2 ^ k % 256)).toNat = c / 2 ^ k % 256 := by simp
  rw [h]
  simp
end Go.Proofs.Ytcpfafmkhegckaa
/-
  Codec: what is written is read again; equal inodes.
-/
namespace Go.Proofs.Ytcpfafmkhegckaa
open Go.RowKit
set_option linter.unusedVariables false
set_option linter.unusedSimpArgs false
set_option linter.unnecessarySimpa false
theorem fBad_mid {A B : List (Nat × Int)} {x : Nat × Int} (h : fBad (A ++ x :: B) = false) : 0 ≤ x.2 ∧ fitB x.1 x.2.toNat = true := by
  rw [fBad_append, Bool.or_eq_false_iff] at h
  have h2 := h.2
  rw [fBad, Bool.or_eq_false_iff, Bool.or_eq_false_iff] at h2
  have h3 := h2.1.1
  have h4 := h2.1.2
  simp at h3 h4
  exact ⟨h3, h4⟩
theorem fitB_lt {k x : Nat} (h : fitB k x = true) : 1 ≤ k ∧ k ≤ 8 ∧ x < 256 ^ k := by
  unfold fitB putOk at h
  rw [Bool.and_eq_true, fitsB_iff] at h
  have h2 := h.2
  simp at h2
  exact ⟨by omega, by omega, h2⟩
/-- A number that was written is read again. -/
theorem rN_fB {A B : List (Nat × Int)} {x : Nat × Int} (h : fBad (A ++ x :: B) = false) : (rN (fB (A ++ x :: B)) (fB A).length x.1 : Int) = x.2 := by
  obtain ⟨h0, h1⟩ := fBad_mid h
  obtain ⟨k1, k8, hx⟩ := fitB_lt h1
  have e : fB (A ++ x :: B) = fB A ++ (le x.1 x.2.toNat ++ fB B) := by rw [fB_append, fB]; unfold wB; rw [h1, if_pos rfl]
  rw [e, rN_part _ _ _ ⟨k1, k8⟩ (by rw [List.length_append, List.length_append, le_length]; omega)]
  have h2 : part (fB A ++ (le x.1 x.2.toNat ++ fB B)) (fB A).length x.1 = x.2.toNat := by
    unfold part
    rw [List.drop_append_of_le_length (Nat.le_refl _), List.drop_length, List.nil_append, List.take_append_of_le_length (by rw [le_length]; exact Nat.le_refl _), List.take_of_length_le (by rw [le_length]; exact Nat.le_refl _), leNat_le_of _ _ hx]
  rw [h2]
  omega
/-- The same, at a place that is said. -/
theorem rN_at {L : List (Nat × Int)} (h : fBad L = false) (i a k : Nat) (x : Int) (hi : L[i]? = some (k, x)) (ha : ((L.take i).map (·.1)).sum = a) : (rN (fB L) a k : Int) = x := by
  obtain ⟨hk, e⟩ := List.getElem?_eq_some_iff.1 hi
  have e2 : L.take i ++ (k, x) :: L.drop (i + 1) = L := by rw [← e, ← List.drop_eq_getElem_cons hk, List.take_append_drop]
  have h2 := rN_fB (A := L.take i) (x := (k, x)) (B := L.drop (i + 1)) (by rw [e2]; exact h)
  rw [e2, fB_len, ha] at h2
  exact h2
theorem len8 {ds : List Int} (h : ds.length = 8) : ∃ d0 d1 d2 d3 d4 d5 d6 d7, ds = [d0, d1, d2, d3, d4, d5, d6, d7] := by
  match ds, h with
  | [d0, d1, d2, d3, d4, d5, d6, d7], _ => exact ⟨_, _, _, _, _, _, _, _, rfl⟩
theorem rds_eight (l : List UInt8) : rds l 8 = [(rN l 15 4 : Int), (rN l 19 4 : Int), (rN l 23 4 : Int), (rN l 27 4 : Int), (rN l 31 4 : Int), (rN l 35 4 : Int), (rN l 39 4 : Int), (rN l 43 4 : Int)] := rfl
set_option maxHeartbeats 4000000 in
theorem ino_back (x : Ino) (hx : x.Ok) (h : fBad (inoL x) = false) : rino (fB (inoL x)) = x := by
  obtain ⟨num, ver, kind, size, time, ds, single, dbl⟩ := x
  have hlen := hx.len
  dsimp only at hlen
  obtain ⟨d0, d1, d2, d3, d4, d5, d6, d7, rfl⟩ : ∃ d0 d1 d2 d3 d4 d5 d6 d7, ds = [d0, d1, d2, d3, d4, d5, d6, d7] := len8 hlen
  have hL : inoL ⟨num, ver, kind, size, time, [d0, d1, d2, d3, d4, d5, d6, d7], single, dbl⟩ = [(2, (num : Int)), (4, (ver : Int)), (1, kind), (4, size), (4, (time : Int)), (4, d0), (4, d1), (4, d2), (4, d3), (4, d4), (4, d5), (4, d6), (4, d7), (4, single), (4, dbl)] := rfl
  rw [hL] at h ⊢
  have q := fun (i a k : Nat) (x : Int) => rN_at h i a k x
  unfold rino
  have e0 := q 0 0 2 _ rfl rfl
  have e1 := q 1 2 4 _ rfl rfl
  have e2 := q 2 6 1 _ rfl rfl
  have e3 := q 3 7 4 _ rfl rfl
  have e4 := q 4 11 4 _ rfl rfl
  have e5 := q 5 15 4 _ rfl rfl
  have e6 := q 6 19 4 _ rfl rfl
  have e7 := q 7 23 4 _ rfl rfl
  have e8 := q 8 27 4 _ rfl rfl
  have e9 := q 9 31 4 _ rfl rfl
  have e10 := q 10 35 4 _ rfl rfl
  have e11 := q 11 39 4 _ rfl rfl
  have e12 := q 12 43 4 _ rfl rfl
  have e13 := q 13 47 4 _ rfl rfl
  have e14 := q 14 51 4 _ rfl rfl
  have hds : rds (fB [(2, (num : Int)), (4, (ver : Int)), (1, kind), (4, size), (4, (time : Int)), (4, d0), (4, d1), (4, d2), (4, d3), (4, d4), (4, d5), (4, d6), (4, d7), (4, single), (4, dbl)]) 8 = [d0, d1, d2, d3, d4, d5, d6, d7] := by
    rw [rds_eight, e5, e6, e7, e8, e9, e10, e11, e12]
  rw [hds, e2, e3, e13, e14]
  congr 1 <;> omega
theorem fBad_inoL_len (x : Ino) (hx : x.Ok) : (fB (inoL x)).length = 55 := by
  rw [fB_len]
  simp only [inoL, inoL5, fourL, List.map_append, List.map_cons, List.map_nil, List.map_map, List.sum_append, List.sum_cons, List.sum_nil]
  have h1 : (List.map ((fun q : Nat × Int => q.1) ∘ fun d => (4, d)) x.ds).sum = 4 * x.ds.length := by
    generalize x.ds = ds
    induction ds with
    | nil => rfl
    | cons d r ih => rw [List.map_cons, List.sum_cons, ih, List.length_cons]; simp; omega
  rw [h1, hx.len]
  rfl
/-- What was sealed is opened again. -/
theorem open_makeS (kind : UInt8) (L : List UInt8) (h : mayB kind L = true) : openB (makeS kind L) = true ∧ openK (makeS kind L) = kind ∧ openL (makeS kind L) = L := by
  have e : makeS kind L = sealS kind L := by unfold makeS; rw [h]; rfl
  have hb := open_seal kind L h
  rw [e]
  refine ⟨hb, ?_, ?_⟩
  · unfold openK; rw [hb, if_pos rfl]; exact seal_at2 kind L
  · unfold openL; rw [hb, if_pos rfl]; exact bodyOf_seal kind L ((mayB_iff kind L).1 h).2
theorem makeE_ok (kind : UInt8) (L : List UInt8) : makeE kind L = if mayB kind L then 0 else 1 := by unfold makeE; cases mayB kind L <;> rfl
theorem ino_read (x : Ino) (hx : x.Ok) (hm : inoMay x.kind = true) (h : fBad (inoL x) = false) : rinoOk (wrS 2 true (fB (inoL x))) = true ∧ rinoV (wrS 2 true (fB (inoL x))) = x := by
  have hlen := fBad_inoL_len x hx
  have hmay : mayB 2 (fB (inoL x)) = true := (mayB_iff _ _).2 ⟨by decide, by omega⟩
  obtain ⟨h1, h2, h3⟩ := open_makeS 2 _ hmay
  have hback := ino_back x hx h
  have hk : (rN (fB (inoL x)) 6 1 : Int) = x.kind := by rw [← hback]; rw [hback]; exact congrArg Ino.kind hback
  have hok : rinoOk (wrS 2 true (fB (inoL x))) = true := by
    unfold rinoOk wrS
    rw [if_pos rfl, h1, h2, h3, hlen, hk, hm]; rfl
  refine ⟨hok, ?_⟩
  unfold rinoV
  rw [hok, if_pos rfl]
  unfold wrS
  rw [if_pos rfl, h3, hback]
theorem eq_arr8 (w : World) (ds : List Int) (h : ds.length = 8) : (Op.equalIn 9999 49 (.agg (ds.map (Value.int .i64 ·)).toArray) (.agg (ds.map (Value.int .i64 ·)).toArray)).run Try.prog w = .ok true w := by
  obtain ⟨d0, d1, d2, d3, d4, d5, d6, d7, rfl⟩ : ∃ d0 d1 d2 d3 d4 d5 d6 d7, ds = [d0, d1, d2, d3, d4, d5, d6, d7] := len8 h
  have h : ∃ i, Try.prog.info? 3 = some i := by
    cases hi : Try.prog.info? 3 with
    | none => have : (Try.prog.info? 3).map (·.size) = some 1 := by kernel_rfl
              rw [hi] at this; cases this
    | some i => exact ⟨i, rfl⟩
  obtain ⟨i, hi⟩ := h
  show (Op.equalIn (9998 + 1) _ _ _).run _ _ = _
  rw [run_equalIn_array w 9998 _ _ Try.underlying49 hi, show Try.prog.cellsOf 3 = 1 by kernel_rfl]
  show Sem.run Try.prog (Op.eqItems 9998 3 1 #[.int .i64 d0, .int .i64 d1, .int .i64 d2, .int .i64 d3, .int .i64 d4, .int .i64 d5, .int .i64 d6, .int .i64 d7] #[.int .i64 d0, .int .i64 d1, .int .i64 d2, .int .i64 d3, .int .i64 d4, .int .i64 d5, .int .i64 d6, .int .i64 d7] [0, 1, 2, 3, 4, 5, 6, 7]) w = _
  simp only [Op.eqItems]
  go_simp
theorem eq_ino (w : World) (x : Ino) (hx : x.ds.length = 8) : (Op.equalIn 10000 59 (.agg x.cells.toArray) (.agg x.cells.toArray)).run Try.prog w = .ok true w := by
  have hu := Try.underlying59
  have hf : Try.prog.underlying 59 = some (.struct (Try.prog.fieldsOf 59)) := by unfold Program.fieldsOf; rw [hu]
  rw [run_equalIn_struct w 9999 _ _ _ hf (by kernel_rfl)]
  unfold Program.fieldsOf
  rw [hu]
  simp only [Op.eqFields]
  obtain ⟨num, ver, kind, size, time, ds, single, dbl⟩ := x
  dsimp only at hx
  have ha := fun W => eq_arr8 W ds hx
  obtain ⟨d0, d1, d2, d3, d4, d5, d6, d7, rfl⟩ : ∃ d0 d1 d2 d3 d4 d5 d6 d7, ds = [d0, d1, d2, d3, d4, d5, d6, d7] := len8 hx
  have ha2 : ∀ W, (Op.equalIn 9999 49 (.agg #[.int .i64 d0, .int .i64 d1, .int .i64 d2, .int .i64 d3, .int .i64 d4, .int .i64 d5, .int .i64 d6, .int .i64 d7]) (.agg #[.int .i64 d0, .int .i64 d1, .int .i64 d2, .int .i64 d3, .int .i64 d4, .int .i64 d5, .int .i64 d6, .int .i64 d7])).run Try.prog W = .ok true W := ha
  clear ha
  have hc : (Ino.mk num ver kind size time [d0, d1, d2, d3, d4, d5, d6, d7] single dbl).cells.toArray = #[.int .u32 (num : Int), .int .u32 (ver : Int), .int .i64 kind, .int .i64 size, .int .u32 (time : Int), .int .i64 d0, .int .i64 d1, .int .i64 d2, .int .i64 d3, .int .i64 d4, .int .i64 d5, .int .i64 d6, .int .i64 d7, .int .i64 single, .int .i64 dbl] := rfl
  rw [hc]
  go_simp
end Go.Proofs.Ytcpfafmkhegckaa
