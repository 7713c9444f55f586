/-
  Codec: a region's header: the program's and the reference's.
-/
import Derived.Test.YtlcbfpcabalgcaaCodHd
import Derived.Test.YtlcbfpcabalgcaaCodD
import Derived.Test.YtlcbfpcabalgcaaCodN
namespace Go.Proofs.Ytlcbfpcabalgcaa
open Go.RowKit
set_option linter.unusedVariables false
set_option linter.unusedSimpArgs false
set_option linter.unnecessarySimpa false
structure Hdr where
  serial : Nat
  seq : Nat
  seg : Int
  grp : Int
  next : Int
  time : Nat
structure Hdr.Ok (x : Hdr) : Prop where
  serial : x.serial < 2 ^ 64
  seq : x.seq < 2 ^ 64
  seg : I64 x.seg
  grp : I64 x.grp
  next : I64 x.next
  time : x.time < 2 ^ 32
def Hdr.cells (x : Hdr) : List Value := [.int .u64 (x.serial : Int), .int .u64 (x.seq : Int), .int .i64 x.seg, .int .i64 x.grp, .int .i64 x.next, .int .u32 (x.time : Int)]
def hdrL (x : Hdr) : List (Nat × Int) := [(8, (x.serial : Int)), (8, (x.seq : Int)), (2, x.seg), (2, x.grp), (2, x.next), (4, (x.time : Int))]
theorem hdr_size (x : Hdr) : x.cells.toArray.size = 6 := rfl
theorem hdr_one (x : Hdr) : x.cells.toArray.all (·.oneCell') = true := by
  rw [List.all_toArray, List.all_eq_true]
  intro u hu
  simp only [Hdr.cells, List.mem_cons, List.not_mem_nil, or_false] at hu
  rcases hu with rfl | rfl | rfl | rfl | rfl | rfl <;> rfl
/-- What is read. -/
def rhdr (l : List UInt8) : Hdr := ⟨rN l 0 8, rN l 8 8, (rN l 16 2 : Int), (rN l 18 2 : Int), (rN l 20 2 : Int), rN l 22 4⟩
def rhdrOk (l : List UInt8) : Bool := (openB l && decide (openK l = 6)) && decide ((openL l).length = 26)
def zHdr : Hdr := ⟨0, 0, 0, 0, 0, 0⟩
def rhdrV (l : List UInt8) : Hdr := if rhdrOk l then rhdr (openL l) else zHdr
def ZH : Array Value := #[.int .u64 0, .int .u64 0, .int .i64 0, .int .i64 0, .int .i64 0, .int .u32 0]
theorem zHdr_cells : zHdr.cells.toArray = ZH := rfl
theorem rhdr_ok (l : List UInt8) : (rhdr l).Ok := by
  have h8 : ∀ a, rN l a 8 < 2 ^ 64 := fun a => Nat.lt_of_lt_of_le (rN_lt l a 8) (by decide)
  have h := fun a k (hk : k ≤ 4) => Nat.lt_of_lt_of_le (rN_lt l a k) (Nat.pow_le_pow_right (n := 256) (by decide) hk)
  have hi : ∀ a k, k ≤ 4 → I64 (rN l a k : Int) := fun a k hk => by have := h a k hk; exact ⟨by omega, by omega⟩
  exact ⟨h8 _, h8 _, hi _ _ (by decide), hi _ _ (by decide), hi _ _ (by decide), h _ _ (by decide)⟩
theorem i64_zero : I64 0 := ⟨by decide, by decide⟩
theorem zHdr_ok : zHdr.Ok := ⟨by decide, by decide, i64_zero, i64_zero, i64_zero, by decide⟩
theorem rhdrV_ok (l : List UInt8) : (rhdrV l).Ok := by unfold rhdrV; split; exact rhdr_ok _; exact zHdr_ok
set_option maxRecDepth 10000 in
set_option maxHeartbeats 4000000 in
theorem mayHeader_any (C : Array Value) (w : World) : Calls Try.prog 55 #[.agg C] w fun e w' => e = .returned (.bool true) ∧ Below w.heap.size w w' := by
  have hb : Below w.heap.size w (w.alloc (.cells C 46 (0, 0))) := (Below.refl _ _).alloc (Nat.le_refl _) _
  have HB := Lib.hid hb
  clear hb
  go_enter Try.func55, Try.ntmps55
  go_wp2
  go_ret
  exact ⟨rfl, HB.out⟩
theorem hdr_pw (x : Hdr) (hx : x.Ok) (w : World) (base g pb : Nat) (h : CwAt w base g [] false) (hb : w.heap[pb]? = some (.cells x.cells.toArray 46 (0, 0))) (hbs : base ≤ w.heap.size) (hpb : pb < base) :
    Calls Try.prog 54 #[wV g, .pointer (some ⟨pb, 0, none⟩)] w (CwTo w base g (fB (hdrL x)) (fBad (hdrL x))) := by
  have := pw_header x.serial x.seq x.seg x.grp x.next x.time pb 0 h (cell_row hb 0) (cell_row hb 1) (cell_row hb 2) (cell_row hb 3) (cell_row hb 4) (cell_row hb 5) hx.serial hx.seq hx.seg hx.grp hx.next hx.time (by simp) hbs hpb
  simpa [hdrL] using this
theorem hdr_bad (l : List UInt8) : (((((false || !rOk l 0 8) || !rOk l (0 + 8) 8) || !rOk l ((0 + 8) + 8) 2) || !rOk l (((0 + 8) + 8) + 2) 2) || !rOk l ((((0 + 8) + 8) + 2) + 2) 2 || !rOk l (((((0 + 8) + 8) + 2) + 2) + 2) 4) = decide (l.length < 26) := by
  rw [show (false || !rOk l 0 8) = decide (l.length < 0 + 8) from bad_next l 0 8 (by decide), bad_next l (0 + 8) 8 (by decide), bad_next l _ 2 (by decide), bad_next l _ 2 (by decide), bad_next l _ 2 (by decide), bad_next l _ 4 (by decide)]
theorem hdr_pr (l : List UInt8) (hl : l.length ≤ 1000) (w : World) (g : Nat) (v : Value) (pb : Nat) (h : CrAt w g v l 0 false) (hb : w.heap[pb]? = some (.cells ZH 46 (0, 0))) (hpg : pb ≠ g) (hv : Apart (· = pb) v l) :
    Calls Try.prog 54 #[rV g, .pointer (some ⟨pb, 0, none⟩)] w fun e w' => e = .returned (.tuple #[]) ∧ CrPass w g v l 26 (decide (l.length < 26)) pb (rhdr l).cells.toArray 46 w' := by
  refine (pr_header pb 0 ZH 46 0 0 0 0 0 0 h (by omega) hl hb rfl rfl rfl rfl rfl rfl hpg hv).mono fun e w' ⟨h1, h2⟩ => ⟨h1, ?_⟩
  rw [hdr_bad] at h2
  exact h2
set_option maxRecDepth 10000 in
set_option maxHeartbeats 4000000 in
theorem writeHeader_any (x : Hdr) (w : World) (hx : x.Ok) : Calls Try.prog 17 #[.agg x.cells.toArray] w (WrS w 6 (true && !fBad (hdrL x)) (fB (hdrL x))) := by
  have hwr := fun w' => wr_header 6 x.cells.toArray true (fB (hdrL x)) (fBad (hdrL x)) w' (hdr_size x) (fun w2 _ => mayHeader_any _ w2)
    (fun w2 base g pb _ hcw hpb hbs hpl => hdr_pw x hx w2 base g pb hcw hpb hbs hpl)
  have hB1 : Below w.heap.size w ((w.alloc (.cells x.cells.toArray 46 (0, 0))).alloc (.cells Try.zeroCells29 29 (0, 0))) := ((Below.refl _ _).alloc (Nat.le_refl _) _).alloc (by simp) _
  have hG1 := old_heap (heap_alloc_last w (.cells x.cells.toArray 46 (0, 0))) ((Below.refl _ _).alloc (Nat.le_refl _) (.cells Try.zeroCells29 29 (0, 0)))
  have hT1 := heap_alloc_last (w.alloc (.cells x.cells.toArray 46 (0, 0))) (.cells Try.zeroCells29 29 (0, 0))
  rw [show (w.alloc (.cells x.cells.toArray 46 (0, 0))).heap.size = w.heap.size + 1 by simp] at hT1
  have HIS := Lib.hid (hdr_size x)
  have HWR := fun w' => Lib.hid (hwr w')
  have HB1 := Lib.hid hB1
  have HG1 := Lib.hid hG1
  have HT1 := Lib.hid hT1
  clear hwr hB1 hG1 hT1 hx
  obtain ⟨C, hC⟩ : ∃ C, x.cells.toArray = C := ⟨_, rfl⟩
  obtain ⟨ok, hok⟩ : ∃ ok, (true && !fBad (hdrL x)) = ok := ⟨_, rfl⟩
  obtain ⟨L, hL⟩ : ∃ L, fB (hdrL x) = L := ⟨_, rfl⟩
  simp only [hC, hok, hL] at HWR HB1 HG1 HT1 HIS ⊢
  clear hC hok hL
  have hS : (bvs (wrS 6 ok L)).toArray.size = 128 := by rw [secV_size, wrS_length]
  have HSS := Lib.hid hS
  clear hS
  unfold WrS at HWR
  go_enter Try.func17, Try.ntmps17
  go_upto_region 1 with fail
  revert HB1 HG1 HT1
  generalize (w.alloc (.cells C 46 (0, 0))).alloc (.cells Try.zeroCells29 29 (0, 0)) = w1
  intro HB1 HG1 HT1
  go_wp2_with (first
    | (refine wpList_load_row rfl 46 (.tmp 1) rfl w.heap.size rfl _ _ _ _ HG1.out Try.underlying46 rfl (by rw [HIS.out]; exact infoHeader) ?_)
    | (go_at_call 53; refine (HWR _).out.mono ?_; rintro e w2 ⟨rfl, hb2⟩; unfold secV; have HT2 := Lib.hid (old_heap HT1.out hb2); have HB2 := Lib.hid (bnext HB1.out hb2); clear hb2)
    | (refine wpList_store_row rfl 29 (.tmp 2) (.tmp 6) rfl (w.heap.size + 1) zArr (bvs (wrS 6 ok L)).toArray 29 rfl rfl HT2.out (by rw [HSS.out]; exact size_sec) (by rw [HSS.out, zArr_size]) (sec_one _) ?_))
  have hld := run_loadVar_row (P := Try.prog) (w2.setRow (w.heap.size + 1) (bvs (wrS 6 ok L)).toArray) (w.heap.size + 1) 29 29 (bvs (wrS 6 ok L)).toArray (0, 0) _ (setRow_heap _ _ _ _ _ _ HT2.out) Try.underlying29 (by simp) (by rw [HSS.out]; exact size_sec)
  exact bodyPost_ret (v := .tuple #[secV (wrS 6 ok L), .int .i64 (wrE 6 ok L)]) (results_cell2 Try.results17 rfl rfl hld) rfl ⟨rfl, below_row HB2.out (by omega)⟩
def rhdrE (l : List UInt8) : Int := if rhdrOk l then 0 else 21
set_option maxRecDepth 10000 in
set_option maxHeartbeats 4000000 in
theorem readHeader_any (l : List UInt8) (w : World) (hl : l.length = 128) : Calls Try.prog 19 #[secV l] w fun e w' => e = .returned (.tuple #[.agg (rhdrV l).cells.toArray, .int .i64 (rhdrE l)]) ∧ Below w.heap.size w w' := by
  have hrd := fun w' => rd_header ZH rfl 6 l (rhdr (openL l)).cells.toArray 26 true (decide ((openL l).length < 26)) w' hl (hdr_size _) (hdr_one _)
    (fun w2 => mayHeader_any _ w2)
    (fun w2 g v pb hcr hpb hpg hap => hdr_pr _ (Nat.le_trans (openL_le l) (by decide)) w2 g v pb hcr hpb hpg hap)
  have hok : ((openB l && decide (openK l = 6)) && ((!decide ((openL l).length < 26) && decide (26 = (openL l).length)) && true)) = rhdrOk l := by
    unfold rhdrOk
    have : (!decide ((openL l).length < 26) && decide (26 = (openL l).length)) = decide ((openL l).length = 26) := by
      rw [Bool.eq_iff_iff]; simp; omega
    rw [this, Bool.and_true]
  simp only [hok] at hrd
  have hV : Array.mk (rhdrV l).cells = (if rhdrOk l then (rhdr (openL l)).cells.toArray else ZH) := by unfold rhdrV; split; rfl; exact zHdr_cells
  have hsz : (rhdrV l).cells.toArray.size = 6 := hdr_size _
  have hone : (rhdrV l).cells.toArray.all (·.oneCell') = true := hdr_one _
  have hrd2 : ∀ w', Calls Try.prog 58 #[.int .u8 6, secV l, .func (.func 54) #[] #[], .func (.func 55) #[] #[]] w' fun e w'' => e = .returned (.tuple #[.agg (rhdrV l).cells.toArray, .int .i64 (rhdrE l)]) ∧ Below w'.heap.size w' w'' := fun w' => (hrd w').mono fun e w'' h => by
    refine ⟨?_, h.2⟩
    rw [h.1]
    unfold rhdrE
    rw [← hV]
  have HRD := fun w' => Lib.hid (hrd2 w')
  have HSZ : Hid ((bvs l).toArray.size = 128) := by unfold Hid; rw [secV_size, hl]
  obtain ⟨C, hC⟩ : ∃ C, (rhdrV l).cells.toArray = C := ⟨_, rfl⟩
  obtain ⟨N, hN⟩ : ∃ N, rhdrE l = N := ⟨_, rfl⟩
  simp only [hC, hN] at HRD ⊢
  rw [hC] at hsz hone
  have HS := Lib.hid hsz
  have H1 := Lib.hid hone
  have hB1 : Below w.heap.size w ((w.alloc (.cells (bvs l).toArray 29 (0, 0))).alloc (.cells #[.int .u64 0, .int .u64 0, .int .i64 0, .int .i64 0, .int .i64 0, .int .u32 0] 46 (0, 0))) := ((Below.refl _ _).alloc (Nat.le_refl _) _).alloc (by simp) _
  have hG1 := old_heap (heap_alloc_last w (.cells (bvs l).toArray 29 (0, 0))) ((Below.refl _ _).alloc (Nat.le_refl _) (.cells #[.int .u64 0, .int .u64 0, .int .i64 0, .int .i64 0, .int .i64 0, .int .u32 0] 46 (0, 0)))
  have hT1 := heap_alloc_last (w.alloc (.cells (bvs l).toArray 29 (0, 0))) (.cells #[.int .u64 0, .int .u64 0, .int .i64 0, .int .i64 0, .int .i64 0, .int .u32 0] 46 (0, 0))
  rw [show (w.alloc (.cells (bvs l).toArray 29 (0, 0))).heap.size = w.heap.size + 1 by simp] at hT1
  have HB1 := Lib.hid hB1
  have HG1 := Lib.hid hG1
  have HT1 := Lib.hid hT1
  clear hrd hok hV hrd2 hC hN hsz hone hB1 hG1 hT1 hl
  unfold secV at HRD ⊢
  go_enter Try.func19, Try.ntmps19
  go_upto_region 1 with fail
  revert HB1 HG1 HT1
  generalize (w.alloc (.cells (bvs l).toArray 29 (0, 0))).alloc (.cells _ 46 (0, 0)) = w1
  intro HB1 HG1 HT1
  go_wp2_with (first
    | (refine wpList_load_row rfl 29 (.tmp 1) rfl w.heap.size rfl _ _ _ _ HG1.out Try.underlying29 rfl (by rw [HSZ.out]; exact size_sec) ?_)
    | (go_at_call 58; refine (HRD _).out.mono ?_; rintro e w2 ⟨rfl, hb2⟩; have HT2 := Lib.hid (old_heap HT1.out hb2); have HB2 := Lib.hid (bnext HB1.out hb2); clear hb2)
    | (refine wpList_store_row rfl 46 (.tmp 2) (.tmp 6) rfl (w.heap.size + 1) _ C 46 rfl rfl HT2.out (by rw [HS.out]; exact infoHeader) (by rw [HS.out]; rfl) H1.out ?_))
  have hld := run_loadVar_row (P := Try.prog) (w2.setRow (w.heap.size + 1) C) (w.heap.size + 1) 46 46 C (0, 0) _ (setRow_heap _ _ _ _ _ _ HT2.out) Try.underlying46 (by simp) (by rw [HS.out]; exact infoHeader)
  exact bodyPost_ret (v := .tuple #[.agg C, .int .i64 N]) (results_cell2 Try.results19 rfl rfl hld) rfl ⟨rfl, below_row HB2.out (by omega)⟩
end Go.Proofs.Ytlcbfpcabalgcaa
