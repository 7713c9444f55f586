/-
  Codec: the reference's WriteHeader.
-/
import Derived.Test.YtlcbfpcabalgcaaCodHe
namespace Go.Proofs.Ytlcbfpcabalgcaa
open Go.RowKit
set_option linter.unusedVariables false
set_option linter.unusedSimpArgs false
set_option linter.unnecessarySimpa false
theorem fit2 (n : Int) (hn : I64 n) : (decide (n < 0) || !fitB 2 n.toNat) = !decide (0 ≤ n ∧ n ≤ 65535) := by
  by_cases h : 0 ≤ n ∧ n ≤ 65535
  · have h1 : fitB 2 n.toNat = true := by
      unfold fitB putOk
      rw [(fitsB_iff _ _ _).2 (by omega), Bool.true_and, decide_eq_true_iff]
      show n.toNat < 65536
      omega
    rw [h1, decide_eq_true h, decide_eq_false (by omega)]; rfl
  · rw [decide_eq_false h]
    by_cases h0 : n < 0
    · rw [decide_eq_true h0]; rfl
    · have h1 : fitB 2 n.toNat = false := by
        unfold fitB putOk
        rw [(fitsB_iff _ _ _).2 (by omega), Bool.true_and, decide_eq_false_iff_not]
        show ¬ n.toNat < 65536
        omega
      rw [h1, Bool.not_false, Bool.or_true]
theorem fit_full (k n : Nat) (hk : 1 ≤ k ∧ k ≤ 8) (h : n < 256 ^ k) : (decide ((n : Int) < 0) || !fitB k (n : Int).toNat) = false := by
  have h1 : fitB k n = true := by
    unfold fitB putOk
    rw [(fitsB_iff _ _ _).2 (by omega), Bool.true_and, decide_eq_true_iff]
    exact h
  rw [Int.toNat_natCast, h1, nat_neg]; rfl
def in16 (n : Int) : Bool := decide (0 ≤ n ∧ n ≤ 65535)
theorem hdr_fit (x : Hdr) (hx : x.Ok) : fBad (hdrL x) = !(in16 x.seg && (in16 x.grp && in16 x.next)) := by
  unfold hdrL in16
  simp only [fBad]
  rw [fit_full 8 _ (by decide) hx.serial, fit_full 8 _ (by decide) hx.seq, fit_full 4 _ (by decide) hx.time, fit2 _ hx.seg, fit2 _ hx.grp, fit2 _ hx.next]
  cases decide (0 ≤ x.seg ∧ x.seg ≤ 65535) <;> cases decide (0 ≤ x.grp ∧ x.grp ≤ 65535) <;> cases decide (0 ≤ x.next ∧ x.next ≤ 65535) <;> rfl
theorem wB_full (k n : Nat) (hk : 1 ≤ k ∧ k ≤ 8) (h : n < 256 ^ k) : wB k n = le k n := by
  unfold wB fitB putOk
  rw [(fitsB_iff _ _ _).2 (by omega), Bool.true_and, if_pos (by rw [decide_eq_true_iff]; exact h)]
set_option maxRecDepth 10000 in
set_option maxHeartbeats 8000000 in
theorem rwriteHeader_any (x : Hdr) (w : World) (hx : x.Ok) : Calls Try.prog 18 #[.agg x.cells.toArray] w (RsS w 6 (!fBad (hdrL x)) (fB (hdrL x))) := by
  obtain ⟨serial, seq, seg, grp, next, time⟩ := x
  have hfit := hdr_fit _ hx
  obtain ⟨r0, r1, r2, r3, r4, r5⟩ := hx
  dsimp only at hfit r0 r1 r2 r3 r4 r5
  have hc : (Hdr.mk serial seq seg grp next time).cells.toArray = #[.int .u64 (serial : Int), .int .u64 (seq : Int), .int .i64 seg, .int .i64 grp, .int .i64 next, .int .u32 (time : Int)] := rfl
  rw [hc]
  clear hc
  have hB2 : Below w.heap.size w ((w.alloc (.cells #[.int .u64 (serial : Int), .int .u64 (seq : Int), .int .i64 seg, .int .i64 grp, .int .i64 next, .int .u32 (time : Int)] 45 (0, 0))).alloc (.cells Try.zeroCells28 28 (0, 0))) := ((Below.refl _ _).alloc (Nat.le_refl _) _).alloc (by simp) _
  have hG2 := old_heap (heap_alloc_last w (.cells #[.int .u64 (serial : Int), .int .u64 (seq : Int), .int .i64 seg, .int .i64 grp, .int .i64 next, .int .u32 (time : Int)] 45 (0, 0))) ((Below.refl _ _).alloc (Nat.le_refl _) (.cells Try.zeroCells28 28 (0, 0)))
  have hT2 := heap_alloc_last (w.alloc (.cells #[.int .u64 (serial : Int), .int .u64 (seq : Int), .int .i64 seg, .int .i64 grp, .int .i64 next, .int .u32 (time : Int)] 45 (0, 0))) (.cells Try.zeroCells28 28 (0, 0))
  rw [show (w.alloc (.cells #[.int .u64 (serial : Int), .int .u64 (seq : Int), .int .i64 seg, .int .i64 grp, .int .i64 next, .int .u32 (time : Int)] 45 (0, 0))).heap.size = w.heap.size + 1 by simp] at hT2
  have hS2 : ((w.alloc (.cells #[.int .u64 (serial : Int), .int .u64 (seq : Int), .int .i64 seg, .int .i64 grp, .int .i64 next, .int .u32 (time : Int)] 45 (0, 0))).alloc (.cells Try.zeroCells28 28 (0, 0))).heap.size = w.heap.size + 1 + 1 := by simp
  have HB2 := Lib.hid hB2
  have HG2 := Lib.hid hG2
  have HT2 := Lib.hid hT2
  have HS2 := Lib.hid hS2
  have HFIT := Lib.hid hfit
  clear hB2 hG2 hT2 hS2 hfit
  go_enter Try.func18, Try.ntmps18
  go_upto_region 1 with fail
  revert HB2 HG2 HT2 HS2
  generalize (w.alloc (.cells #[.int .u64 (serial : Int), .int .u64 (seq : Int), .int .i64 seg, .int .i64 grp, .int .i64 next, .int .u32 (time : Int)] 45 (0, 0))).alloc (.cells Try.zeroCells28 28 (0, 0)) = w2
  intro HB2 HG2 HT2 HS2
  have c0 : w2.cell? ⟨w.heap.size, 0, none⟩ = some (.int .u64 (serial : Int)) := cell_row HG2.out 0
  have c1 : w2.cell? ⟨w.heap.size, 1, none⟩ = some (.int .u64 (seq : Int)) := cell_row HG2.out 1
  have c2 : w2.cell? ⟨w.heap.size, 2, none⟩ = some (.int .i64 seg) := cell_row HG2.out 2
  have c3 : w2.cell? ⟨w.heap.size, 3, none⟩ = some (.int .i64 grp) := cell_row HG2.out 3
  have c4 : w2.cell? ⟨w.heap.size, 4, none⟩ = some (.int .i64 next) := cell_row HG2.out 4
  have c5 : w2.cell? ⟨w.heap.size, 5, none⟩ = some (.int .u32 (time : Int)) := cell_row HG2.out 5
  by_cases hq : (0 ≤ seg ∧ seg ≤ 65535) ∧ (0 ≤ grp ∧ grp ≤ 65535) ∧ (0 ≤ next ∧ next ≤ 65535)
  rotate_left
  · have hbad : fBad (hdrL ⟨serial, seq, seg, grp, next, time⟩) = true := by rw [HFIT.out]; unfold in16; rw [Bool.not_eq_true', Bool.eq_false_iff]; intro h; rw [Bool.and_eq_true, Bool.and_eq_true, decide_eq_true_iff, decide_eq_true_iff, decide_eq_true_iff] at h; exact hq h
    have HBAD := Lib.hid hbad
    have hcut : ∀ G : Prop, (seg < 0 → G) → (¬ seg < 0 → 65535 < seg → G) → (¬ seg < 0 → ¬ 65535 < seg → grp < 0 → G) → (¬ seg < 0 → ¬ 65535 < seg → ¬ grp < 0 → 65535 < grp → G) → (¬ seg < 0 → ¬ 65535 < seg → ¬ grp < 0 → ¬ 65535 < grp → next < 0 → G) → (¬ seg < 0 → ¬ 65535 < seg → ¬ grp < 0 → ¬ 65535 < grp → ¬ next < 0 → 65535 < next → G) → G := fun G a b c d e f => by
      by_cases h1 : seg < 0
      · exact a h1
      · by_cases h2 : 65535 < seg
        · exact b h1 h2
        · by_cases h3 : grp < 0
          · exact c h1 h2 h3
          · by_cases h4 : 65535 < grp
            · exact d h1 h2 h3 h4
            · by_cases h5 : next < 0
              · exact e h1 h2 h3 h4 h5
              · exact f h1 h2 h3 h4 h5 (by omega)
    clear hq hbad
    refine hcut _ ?_ ?_ ?_ ?_ ?_ ?_ <;> clear hcut <;> intros
    all_goals
      go_wp2_with (refine wpList_store_row rfl 28 (.tmp 2) (.tmp 33) rfl (w.heap.size + 1) zArr zArr 28 rfl rfl HT2.out (by rw [zArr_size]; exact size_arr) rfl zArr_one ?_)
      have hld := run_loadVar_row (P := Try.prog) (w2.setRow (w.heap.size + 1) zArr) (w.heap.size + 1) 28 28 zArr (0, 0) _ (setRow_heap _ _ _ _ _ _ HT2.out) Try.underlying28 (by simp) (by rw [zArr_size]; exact size_arr)
      exact bodyPost_ret (v := .tuple #[secV (List.replicate 128 0), .bool false]) (results_cell2 Try.results18 rfl rfl hld) rfl (rsS_no (by rw [HBAD.out]; rfl) rfl (below_row HB2.out (by omega)))
  · obtain ⟨⟨q0, q1⟩, ⟨q2, q3⟩, q4, q5⟩ := hq
    obtain ⟨s, rfl⟩ : ∃ s : Nat, seg = (s : Int) := ⟨seg.toNat, by omega⟩
    obtain ⟨g, rfl⟩ : ∃ g : Nat, grp = (g : Int) := ⟨grp.toNat, by omega⟩
    obtain ⟨n, rfl⟩ : ∃ n : Nat, next = (n : Int) := ⟨next.toNat, by omega⟩
    have hgood : fBad (hdrL ⟨serial, seq, (s : Int), (g : Int), (n : Int), time⟩) = false := by rw [HFIT.out]; unfold in16; simp; omega
    have HGOOD := Lib.hid hgood
    have hL : fB (hdrL ⟨serial, seq, (s : Int), (g : Int), (n : Int), time⟩) = ((((le 8 serial ++ le 8 seq) ++ le 2 s) ++ le 2 g) ++ le 2 n) ++ le 4 time := by
      unfold hdrL
      simp only [fB, Int.toNat_natCast]
      rw [wB_full 8 _ (by decide) r0, wB_full 8 _ (by decide) r1, wB_full 2 s (by decide) (by show s < 65536; omega), wB_full 2 g (by decide) (by show g < 65536; omega), wB_full 2 n (by decide) (by show n < 65536; omega), wB_full 4 _ (by decide) r5]
      simp
    have HL := Lib.hid hL
    have x0 : (serial : Int) % 18446744073709551616 = (serial : Int) := by omega
    have w2' : IntKind.u64.wrap (s : Int) = (s : Int) := by rw [IntKind.wrap_u64]; omega
    have w3' : IntKind.u64.wrap (g : Int) = (g : Int) := by rw [IntKind.wrap_u64]; omega
    have w4' : IntKind.u64.wrap (n : Int) = (n : Int) := by rw [IntKind.wrap_u64]; omega
    have w5' : IntKind.u64.wrap (time : Int) = (time : Int) := by rw [IntKind.wrap_u64]; omega
    have y2 : (s : Int) % 18446744073709551616 = (s : Int) := by omega
    have y3 : (g : Int) % 18446744073709551616 = (g : Int) := by omega
    have y4 : (n : Int) % 18446744073709551616 = (n : Int) := by omega
    have y5 : (time : Int) % 18446744073709551616 = (time : Int) := by omega
    have hlow := fun (k n : Nat) (h : n < 2 ^ 64) (hk : k ≤ 8) W => Lib.hid (low_any n k W h hk)
    have HW0 := fun W => hlow 8 serial r0 (by decide) W
    have HW1 := fun W => hlow 8 seq r1 (by decide) W
    have HW2 := fun W => hlow 2 s (by omega) (by decide) W
    have HW3 := fun W => hlow 2 g (by omega) (by decide) W
    have HW4 := fun W => hlow 2 n (by omega) (by decide) W
    have HW5 := fun W => hlow 4 time (by omega) (by decide) W
    have hpl : w.heap.size < w2.heap.size := by have := HS2.out; omega
    have HC0 := Lib.hid c0
    have HC1 := Lib.hid c1
    have HC2 := Lib.hid c2
    have HC3 := Lib.hid c3
    have HC4 := Lib.hid c4
    have HC5 := Lib.hid c5
    clear hgood hL hlow r2 r3 r4
    go_upto_region 3 with fail
    clear c0 c1 c2 c3 c4 c5
    refine wp_region_held_drew (S := (fun w' => w'.cell? ⟨w.heap.size, 0, none⟩ = some (.int .u64 (serial : Int)) ∧ w'.cell? ⟨w.heap.size, 1, none⟩ = some (.int .u64 (seq : Int)) ∧ Below w2.heap.size w2 w')) (by kernel_rfl) (by exact ⟨HC0.out, HC1.out, (Below.refl _ _).drew⟩) (fun hHeld => ?_)
    refine take1_ (i := 0) (v := ?_) (a' := ?_) (some 34) #[true, false, false, false, false, false, false, false] rfl rfl (by kernel_rfl) (fun _ _ _ h => h) (Or.inl ⟨by rfl, ?_⟩) hHeld ?_ ?_
    rotate_left
    · (intro w hSw; (try dsimp only at hSw); obtain ⟨c0, c1, cB⟩ := hSw; go_simp; (try with_reducible rfl))
    rotate_left
    · simp only [Act.put, List.setIfInBounds_toArray, List.set_cons_zero, List.set_cons_succ]
      rfl
    refine take1_ (i := 1) (v := ?_) (a' := ?_) (some 35) #[true, true, false, false, false, false, false, false] rfl rfl (by kernel_rfl) (fun _ _ _ h => h) (Or.inl ⟨by rfl, ?_⟩) hHeld ?_ ?_
    rotate_left
    · (intro w hSw; (try dsimp only at hSw); obtain ⟨c0, c1, cB⟩ := hSw; go_simp; (try with_reducible rfl))
    rotate_left
    · simp only [Act.put, List.setIfInBounds_toArray, List.set_cons_zero, List.set_cons_succ]
      rfl
    refine take1_ (i := 3) (v := ?_) (a' := ?_) (some 37) #[true, true, false, true, false, false, false, false] rfl rfl (by kernel_rfl) (fun _ _ _ h => h) (Or.inl ⟨by rfl, ?_⟩) hHeld ?_ ?_
    rotate_left
    · (intro w hSw; (try dsimp only at hSw); obtain ⟨c0, c1, cB⟩ := hSw; go_simp; (try with_reducible rfl))
    rotate_left
    · simp only [Act.put, List.setIfInBounds_toArray, List.set_cons_zero, List.set_cons_succ]
      rfl
    refine take1_ (i := 4) (v := ?_) (a' := ?_) (some 38) #[true, true, false, true, true, false, false, false] rfl rfl (by kernel_rfl) (fun _ _ _ h => h) (Or.inl ⟨by rfl, ?_⟩) hHeld ?_ ?_
    rotate_left
    · (intro w hSw; (try dsimp only at hSw); obtain ⟨c0, c1, cB⟩ := hSw; go_simp; (try with_reducible rfl))
    rotate_left
    · simp only [Act.put, List.setIfInBounds_toArray, List.set_cons_zero, List.set_cons_succ]
      rfl
    refine loud1_ (i := 2) (some 36) #[true, true, true, true, true, false, false, false] rfl rfl (by kernel_rfl) (fun K hK => ?_)
    go_simp
    (go_at_call 56; refine (HW0 _).out.mono ?_; rintro e w3 ⟨v3, rfl, ho3, hb3⟩; have HO3 := Lib.hid (own_low ho3 hHeld.2.2.size); have hnx := hHeld.2.2.trans (hb3.mono hHeld.2.2.size); clear ho3)
    refine hK.out _ _ (by exact ⟨(hnx.cell (p := ⟨w.heap.size, 0, none⟩) hpl).trans HC0.out, (hnx.cell (p := ⟨w.heap.size, 1, none⟩) hpl).trans HC1.out, hnx⟩) (fun hHeld' => ?_)
    clear hK K hHeld
    have hHeld := hHeld'
    clear hHeld'
    try simp only [Act.put, List.setIfInBounds_toArray, List.set_cons_zero, List.set_cons_succ]
    refine loud1_ (i := 5) (some 39) #[true, true, true, true, true, true, false, false] rfl rfl (by kernel_rfl) (fun K hK => ?_)
    go_simp
    (go_at_call 56; refine (HW1 _).out.mono ?_; rintro e w4 ⟨v4, rfl, ho4, hb4⟩; have HO3' := Lib.hid (own_below HO3.out hb4); have HR4 := Lib.hid (own_rd ho4); have hnx := hHeld.2.2.trans (hb4.mono hHeld.2.2.size); clear ho4)
    refine hK.out _ _ (by exact ⟨(hnx.cell (p := ⟨w.heap.size, 0, none⟩) hpl).trans HC0.out, (hnx.cell (p := ⟨w.heap.size, 1, none⟩) hpl).trans HC1.out, hnx⟩) (fun hHeld' => ?_)
    clear hK K hHeld
    have hHeld := hHeld'
    clear hHeld'
    try simp only [Act.put, List.setIfInBounds_toArray, List.set_cons_zero, List.set_cons_succ]
    refine loud1_ (i := 6) (some 40) #[true, true, true, true, true, true, true, false] rfl rfl (by kernel_rfl) (fun K hK => ?_)
    (refine step_append_rd (by rfl) (.tmp 36) (.tmp 39) 26 (by rfl) w2.heap.size 5 (.int .u8 0) 1 1 Try.underlying26 infoU8 rfl (by decide) _ _ _ (by rfl) HO3'.out _ _ (bvs (le 8 seq)) (by rfl) HR4.out (bvs_oneCell _) (by rw [le_length, le_length]; decide) (by decide) hHeld.2.2.size ?_; intro v5 w5 hown5 hbel5 hg5; rw [← bvs_append, ← List.length_append] at hown5; have HO5 := Lib.hid hown5; have hnx := hHeld.2.2.trans hbel5; clear hown5 hbel5 hg5)
    refine hK.out _ _ (by exact ⟨(hnx.cell (p := ⟨w.heap.size, 0, none⟩) hpl).trans HC0.out, (hnx.cell (p := ⟨w.heap.size, 1, none⟩) hpl).trans HC1.out, hnx⟩) (fun hHeld' => ?_)
    clear hK K hHeld
    have hHeld := hHeld'
    clear hHeld'
    try simp only [Act.put, List.setIfInBounds_toArray, List.set_cons_zero, List.set_cons_succ]
    refine take1_ (i := 7) (v := ?_) (a' := ?_) (some 4) #[true, true, true, true, true, true, true, true] rfl rfl (by kernel_rfl) (fun _ _ _ h => h) (Or.inl ⟨by rfl, ?_⟩) hHeld ?_ ?_
    rotate_left
    · (intro w hSw; (try dsimp only at hSw); obtain ⟨c0, c1, cB⟩ := hSw; go_simp; (try with_reducible rfl))
    rotate_left
    · simp only [Act.put, List.setIfInBounds_toArray, List.set_cons_zero, List.set_cons_succ]
      rfl
    refine wpAnyH_done (by kernel_rfl) ?_ _
    have HB5 := Lib.hid hHeld.2.2
    clear hHeld hnx HO3 HO3' HR4
    obtain ⟨M5, hM5⟩ : ∃ M, (le 8 serial ++ le 8 seq) = M := ⟨_, rfl⟩
    rw [hM5] at HO5
    have HLN : Hid (M5.length = 16) := Lib.hid (by rw [← hM5]; simp)
    have HM5 := Lib.hid hM5
    clear hM5
    have HO := HO5
    have HB := HB5
    obtain ⟨sv5, cv5, rfl⟩ := own_slice1 HO.out
    have cc : w5.cell? ⟨w.heap.size, 2, none⟩ = some (.int .i64 (s : Int)) := (HB.out.cell (p := ⟨w.heap.size, 2, none⟩) hpl).trans HC2.out
    go_upto_region 5 with (first
      | (go_at_call 56; refine (HW2 _).out.mono ?_; rintro e w6 ⟨vw6, rfl, ho, hb⟩; have HP := Lib.hid (own_below HO.out hb); have HR := Lib.hid (own_rd ho); have HBL := Lib.hid (HB.out.trans (hb.mono HB.out.size)); clear ho hb)
      | (at_builtin; refine wpList_append_rd _ rfl (.tmp 41) (.tmp 45) 26 rfl w2.heap.size 5 (.int .u8 0) 1 1 Try.underlying26 infoU8 rfl (by decide) _ _ _ rfl HP.out _ _ (bvs (le 2 s)) rfl HR.out (bvs_oneCell _) ?c2 (by decide) HBL.out.size ?_; (case c2 => rw [HLN.out, le_length]; decide); intro vw7 w7 hown hbel hg; rw [← bvs_append, ← List.length_append] at hown; have HOn := Lib.hid hown; have HBn := Lib.hid (HBL.out.trans hbel); clear hown hbel hg))
    have HO7 := HOn
    have HB7 := HBn
    have HLNp := HLN
    clear HO HB HP HR HBL HOn HBn HLN cc
    obtain ⟨M7, hM7⟩ : ∃ M, M5 ++ le 2 s = M := ⟨_, rfl⟩
    rw [hM7] at HO7
    have HLN : Hid (M7.length = 18) := Lib.hid (by rw [← hM7]; simp [HLNp.out])
    have HM7 := Lib.hid hM7
    clear hM7
    have HO := HO7
    have HB := HB7
    obtain ⟨sv7, cv7, rfl⟩ := own_slice1 HO.out
    have cc : w7.cell? ⟨w.heap.size, 3, none⟩ = some (.int .i64 (g : Int)) := (HB.out.cell (p := ⟨w.heap.size, 3, none⟩) hpl).trans HC3.out
    go_upto_region 6 with (first
      | (go_at_call 56; refine (HW3 _).out.mono ?_; rintro e w8 ⟨vw8, rfl, ho, hb⟩; have HP := Lib.hid (own_below HO.out hb); have HR := Lib.hid (own_rd ho); have HBL := Lib.hid (HB.out.trans (hb.mono HB.out.size)); clear ho hb)
      | (at_builtin; refine wpList_append_rd _ rfl (.tmp 47) (.tmp 51) 26 rfl w2.heap.size 5 (.int .u8 0) 1 1 Try.underlying26 infoU8 rfl (by decide) _ _ _ rfl HP.out _ _ (bvs (le 2 g)) rfl HR.out (bvs_oneCell _) ?c2 (by decide) HBL.out.size ?_; (case c2 => rw [HLN.out, le_length]; decide); intro vw9 w9 hown hbel hg; rw [← bvs_append, ← List.length_append] at hown; have HOn := Lib.hid hown; have HBn := Lib.hid (HBL.out.trans hbel); clear hown hbel hg))
    have HO9 := HOn
    have HB9 := HBn
    have HLNp := HLN
    clear HO HB HP HR HBL HOn HBn HLN cc
    obtain ⟨M9, hM9⟩ : ∃ M, M7 ++ le 2 g = M := ⟨_, rfl⟩
    rw [hM9] at HO9
    have HLN : Hid (M9.length = 20) := Lib.hid (by rw [← hM9]; simp [HLNp.out])
    have HM9 := Lib.hid hM9
    clear hM9
    have HO := HO9
    have HB := HB9
    obtain ⟨sv9, cv9, rfl⟩ := own_slice1 HO.out
    have cc : w9.cell? ⟨w.heap.size, 4, none⟩ = some (.int .i64 (n : Int)) := (HB.out.cell (p := ⟨w.heap.size, 4, none⟩) hpl).trans HC4.out
    go_upto_region 7 with (first
      | (go_at_call 56; refine (HW4 _).out.mono ?_; rintro e w10 ⟨vw10, rfl, ho, hb⟩; have HP := Lib.hid (own_below HO.out hb); have HR := Lib.hid (own_rd ho); have HBL := Lib.hid (HB.out.trans (hb.mono HB.out.size)); clear ho hb)
      | (at_builtin; refine wpList_append_rd _ rfl (.tmp 53) (.tmp 57) 26 rfl w2.heap.size 5 (.int .u8 0) 1 1 Try.underlying26 infoU8 rfl (by decide) _ _ _ rfl HP.out _ _ (bvs (le 2 n)) rfl HR.out (bvs_oneCell _) ?c2 (by decide) HBL.out.size ?_; (case c2 => rw [HLN.out, le_length]; decide); intro vw11 w11 hown hbel hg; rw [← bvs_append, ← List.length_append] at hown; have HOn := Lib.hid hown; have HBn := Lib.hid (HBL.out.trans hbel); clear hown hbel hg))
    have HO11 := HOn
    have HB11 := HBn
    have HLNp := HLN
    clear HO HB HP HR HBL HOn HBn HLN cc
    obtain ⟨M11, hM11⟩ : ∃ M, M9 ++ le 2 n = M := ⟨_, rfl⟩
    rw [hM11] at HO11
    have HLN : Hid (M11.length = 22) := Lib.hid (by rw [← hM11]; simp [HLNp.out])
    have HM11 := Lib.hid hM11
    clear hM11
    have HO := HO11
    have HB := HB11
    obtain ⟨sv11, cv11, rfl⟩ := own_slice1 HO.out
    have cc : w11.cell? ⟨w.heap.size, 5, none⟩ = some (.int .u32 (time : Int)) := (HB.out.cell (p := ⟨w.heap.size, 5, none⟩) hpl).trans HC5.out
    have hLE : fB (hdrL ⟨serial, seq, (s : Int), (g : Int), (n : Int), time⟩) = M11 ++ le 4 time := by rw [HL.out, HM5.out, HM7.out, HM9.out, HM11.out]
    obtain ⟨M, hM⟩ : ∃ M, M11 ++ le 4 time = M := ⟨_, rfl⟩
    have hml : M.length = 26 := by rw [← hM]; simp [HLN.out]
    have HMK := fun v W (hv : Byt W v M) => Lib.hid (rmake_any 6 v M W hv)
    have hms : (bvs (makeS 6 M)).toArray.size = 128 := by rw [secV_size, makeS_length]
    have HMS := Lib.hid hms
    have HMM := Lib.hid hM
    have HLE := Lib.hid hLE
    clear hM hLE hms hml
    obtain ⟨S, hS⟩ : ∃ S, makeS 6 M = S := ⟨_, rfl⟩
    obtain ⟨N, hN⟩ : ∃ N, mayB 6 M = N := ⟨_, rfl⟩
    simp only [hS, hN] at HMK HMS
    have HS := Lib.hid hS
    have HN := Lib.hid hN
    clear hS hN
    unfold secV at HMK
    go_wp2_with (first
      | (go_at_call 56; refine (HW5 _).out.mono ?_; rintro e w12 ⟨vw12, rfl, ho, hb⟩; have HP := Lib.hid (own_below HO.out hb); have HR := Lib.hid (own_rd ho); have HBL := Lib.hid (HB.out.trans (hb.mono HB.out.size)); clear ho hb)
      | (at_builtin; refine wpList_append_rd _ rfl (.tmp 59) (.tmp 63) 26 rfl w2.heap.size 5 (.int .u8 0) 1 1 Try.underlying26 infoU8 rfl (by decide) _ _ _ rfl HP.out _ _ (bvs (le 4 time)) rfl HR.out (bvs_oneCell _) ?c2 (by decide) HBL.out.size ?_; (case c2 => rw [HLN.out, le_length]; decide); intro vw13 w13 hown hbel hg; rw [← bvs_append, ← List.length_append] at hown; have HOn := Lib.hid hown; have HBn := Lib.hid (HBL.out.trans hbel); clear hown hbel hg)
      | (go_at_call 57; have hby := (own_byt HOn.out).1; rw [HMM.out] at hby; refine (HMK _ _ hby).out.mono ?_; rintro e w14 ⟨rfl, hb14⟩; have HT14 := Lib.hid (old_heap ((HBn.out.block (w.heap.size + 1) (by have := HS2.out; omega)).trans HT2.out) hb14); have HB14 := Lib.hid (bnext (HB2.out.trans (HBn.out.mono (by have := HS2.out; omega))) hb14); clear hb14 hby)
      | (refine wpList_store_row rfl 28 (.tmp 2) (.tmp 66) rfl (w.heap.size + 1) zArr (bvs S).toArray 28 rfl rfl HT14.out (by rw [HMS.out]; exact size_arr) (by rw [HMS.out, zArr_size]) (sec_one _) ?_))
    have hld := run_loadVar_row (P := Try.prog) (w14.setRow (w.heap.size + 1) (bvs S).toArray) (w.heap.size + 1) 28 28 (bvs S).toArray (0, 0) _ (setRow_heap _ _ _ _ _ _ HT14.out) Try.underlying28 (by simp) (by rw [HMS.out]; exact size_arr)
    exact bodyPost_ret (v := .tuple #[secV S, .bool N]) (results_cell2 Try.results18 rfl rfl hld) rfl (rsS_yes (by rw [HGOOD.out]; rfl) (by rw [HLE.out, HMM.out, HS.out, HN.out]) (below_row HB14.out (by omega)))
end Go.Proofs.Ytlcbfpcabalgcaa
