/-
  Sealed sectors: the walks of Make, Open and Is.
-/
import Derived.Test.YtcpfafmkhegckaaSealP
import Derived.Test.YtcpfafmkhegckaaReader
namespace Go.Proofs.Ytcpfafmkhegckaa
open Go.RowKit
set_option linter.unusedVariables false
set_option linter.unusedSimpArgs false
theorem WrAt.zero (w : World) (g : Nat) (h : w.heap[g]? = some (.cells (wrCells ([], 0)) 114 (0, 0))) : WrAt w g ([], 0) := ⟨by simp, h⟩
theorem info_writer : (Try.prog.info? 114).map (fun i => (i.zero, i.size)) = some (some (.agg (wrCells ([], 0))), 130) := by kernel_rfl
theorem zero_writer (w : World) : (zeroValue 114).run Try.prog w = .ok (.agg (wrCells ([], 0))) w := (zero_of_info info_writer).1 w
theorem only_below {g B : Nat} {w w' : World} (h : OnlyAt g w w') (hB : B ≤ g) : Below B w w' := ⟨h.1.os, h.1.tape, h.1.output, h.1.size, fun k hk => by
  by_cases hk2 : k < w.heap.size
  · exact h.1.block k hk2 (by simp; omega)
  · rw [Array.getElem?_eq_none (by rw [h.2]; omega), Array.getElem?_eq_none (by omega)]⟩
theorem seal_writer (k : UInt8) (b : List UInt8) (h : b.length ≤ 120) :
    wBytes (wNum (wNum (wNum ([], 0) 2 19671) 1 k.toNat) 1 b.length) 120 b = (sealH k b, 0) := by
  have hk := k.toNat_lt
  have e1 : wNum ([], 0) 2 19671 = ([215, 76], 0) := by decide
  have e2 : ∀ (l : List UInt8) (x : Nat), l.length < 128 → x < 256 → wNum (l, 0) 1 x = (l ++ [UInt8.ofNat x], 0) := fun l x hl hx => by
    have : putOk 128 l.length 1 x = true := by
      unfold putOk; rw [(fitsB_iff _ _ _).2 (by omega)]; simpa using hx
    unfold wNum
    rw [if_pos rfl, if_pos this]
    simp [le, Nat.mod_eq_of_lt hx]
  rw [e1, e2 _ _ (by simp) hk, e2 _ _ (by simp) (by omega)]
  unfold wBytes
  rw [if_pos rfl, if_neg (by simp; omega)]
  simp [sealH]
theorem written_sec (l : List UInt8) (n : Nat) (x : List UInt8) (h : n + x.length ≤ l.length) : written (bvs l).toArray n x = (bvs (splice l n x)).toArray := by
  unfold written splice bvs
  simp
theorem splice_end (l x : List UInt8) (n : Nat) (h : n + x.length = l.length) : splice l n x = l.take n ++ x := by
  unfold splice; rw [List.drop_of_length_le (by omega)]; simp
theorem seal_written (k : UInt8) (b : List UInt8) (h : b.length ≤ 120) : written (bvs (zpad 128 (sealH k b))).toArray 124 (le 4 (crc ((zpad 128 (sealH k b)).take 124))) = (bvs (sealS k b)).toArray := by
  have hH := sealH_length k b h
  have e : (zpad 128 (sealH k b)).take 124 = sealH k b := by
    unfold zpad; rw [List.take_append_of_le_length (by omega), List.take_of_length_le (by omega)]
  have hz : (zpad 128 (sealH k b)).length = 128 := zpad_length _ _ (by omega)
  rw [e, written_sec _ _ _ (by rw [hz]; simp), splice_end _ _ _ (by rw [hz]; simp), e]
  rfl
theorem take124 (k : UInt8) (b : List UInt8) (h : b.length ≤ 120) : (zpad 128 (sealH k b)).length = 128 ∧ ((zpad 128 (sealH k b)).take 124).length = 124 := by
  have hz : (zpad 128 (sealH k b)).length = 128 := zpad_length _ _ (by rw [sealH_length k b h]; omega)
  exact ⟨hz, by rw [List.length_take, hz]; rfl⟩
set_option maxHeartbeats 1000000 in
set_option maxRecDepth 10000 in
theorem make_no (kind : UInt8) (v : Value) (b : List UInt8) (w : World) (hv : Byt w v b) (hm : mayB kind b = false) :
    Calls Try.prog 53 #[.int .u8 (kind.toNat : Int), v] w fun e w' => e = .returned (.tuple #[secV (List.replicate 128 0), .int .i64 1]) ∧ Below w.heap.size w w' := by
  obtain ⟨sp, c, rfl, _⟩ := hv.form
  have hz := zero_sec
  have hcut : ∀ K : Prop, (((kind.toNat : Int) == 0) = true → K) → (((kind.toNat : Int) == 0) = false → (120 : Int) < b.length → K) → K := fun K x y => by
    by_cases hk : kind = 0
    · subst hk; exact x rfl
    · refine y ?_ ?_
      · have : kind.toNat ≠ 0 := fun h => hk (UInt8.toNat_inj.1 h)
        simpa using this
      · rcases (mayB_not _ _).1 hm with h | h
        · exact absurd h hk
        · omega
  clear hv hm
  refine hcut _ ?_ ?_ <;> clear hcut <;> intros
  all_goals
    go_enter Try.func53, Try.ntmps53
    go_wp2_with (refine wpList_store_row rfl 36 (.tmp 4) (.tmp 16) rfl w.heap.size zArr zArr 36 rfl rfl (heap_alloc_last _ _) (by rw [zArr_size]; exact size_sec) rfl zArr_one ?_)
    have hld := run_loadVar_row (P := Try.prog) ((w.alloc (.cells zArr 36 (0, 0))).setRow w.heap.size zArr) w.heap.size 36 36 zArr (0, 0) _ (setRow_heap _ _ _ _ _ _ (heap_alloc_last _ _)) Try.underlying36 (by simp) (by rw [zArr_size]; exact size_sec)
    refine bodyPost_ret (v := .tuple #[secV (List.replicate 128 0), .int .i64 1]) (results_cell2 Try.results53 rfl rfl hld) rfl ⟨rfl, ?_⟩
    rw [World.setRow_alloc_new]
    exact (Below.refl _ _).alloc (Nat.le_refl _) _
set_option maxHeartbeats 1000000 in
set_option maxRecDepth 10000 in
theorem make_yes (kind : UInt8) (v : Value) (b : List UInt8) (w : World) (hv : Byt w v b) (hm : mayB kind b = true) :
    Calls Try.prog 53 #[.int .u8 (kind.toNat : Int), v] w fun e w' => e = .returned (.tuple #[secV (sealS kind b), .int .i64 0]) ∧ Below w.heap.size w w' := by
  obtain ⟨sp, c, rfl, _⟩ := hv.form
  obtain ⟨hk0, hb⟩ := (mayB_iff _ _).1 hm
  have hk : ((kind.toNat : Int) == 0) = false := by
    have : kind.toNat ≠ 0 := fun h => hk0 (UInt8.toNat_inj.1 h)
    simpa using this
  have hk8 : kind.toNat < 256 := kind.toNat_lt
  have hz := zero_sec
  have hzw := zero_writer
  have hwrt := seal_writer kind b hb
  have hH := sealH_length kind b hb
  have hwritten := seal_written kind b hb
  have ht124 := take124 kind b hb
  have hS := sealS_length kind b hb
  -- the worlds ahead of the first call
  have hg1 : (w.alloc (.cells zArr 36 (0, 0))).heap[w.heap.size]? = some (.cells zArr 36 (0, 0)) := heap_alloc_last _ _
  have hb1 : Below w.heap.size w (w.alloc (.cells zArr 36 (0, 0))) := (Below.refl _ _).alloc (Nat.le_refl _) _
  have hs1 : (w.alloc (.cells zArr 36 (0, 0))).heap.size = w.heap.size + 1 := by simp
  have hW2 : WrAt ((w.alloc (.cells zArr 36 (0, 0))).alloc (.cells (wrCells ([], 0)) 114 (0, 0))) (w.heap.size + 1) ([], 0) := WrAt.zero _ _ (by
    have := heap_alloc_last (w.alloc (.cells zArr 36 (0, 0))) (.cells (wrCells ([], 0)) 114 (0, 0)); simpa using this)
  have hb2 : Below (w.heap.size + 1) (w.alloc (.cells zArr 36 (0, 0))) ((w.alloc (.cells zArr 36 (0, 0))).alloc (.cells (wrCells ([], 0)) 114 (0, 0))) := (Below.refl _ _).alloc (by simp) _
  have hv2 : Byt ((w.alloc (.cells zArr 36 (0, 0))).alloc (.cells (wrCells ([], 0)) 114 (0, 0))) (.slice sp b.length c) b := hv.below (hb1.trans (hb2.mono (Nat.le_succ _)))
  have HWRT := Lib.hid hwrt
  have HH := Lib.hid hH
  have HWN := Lib.hid hwritten
  have H124 := Lib.hid ht124
  have HS := Lib.hid hS
  have HG1 := Lib.hid hg1
  have HB1 := Lib.hid hb1
  have HS1 := Lib.hid hs1
  have HW2 := Lib.hid hW2
  have HB2 := Lib.hid hb2
  have HV2 := Lib.hid hv2
  have HB := Lib.hid hb
  have HVV : Hid (∀ a, Below (w.heap.size + 1) (w.alloc (.cells zArr 36 (0, 0))) a → Byt a (.slice sp b.length c) b) := Lib.hid (fun a ha => hv.below (hb1.trans (ha.mono (Nat.le_succ _))))
  clear hwrt hH hwritten ht124 hS hg1 hb1 hs1 hW2 hb2 hv2 hv hm hk0
  have hlen : ¬ ((120 : Int) < (b.length : Int)) := by omega
  have hnn : (0 : Int) ≤ (b.length : Int) := by omega
  clear hb
  have HK8 := Lib.hid hk8
  go_enter Try.func53, Try.ntmps53
  go_upto_region 4 with fail
  revert HG1 HB1 HS1 HW2 HB2 HV2 HVV
  generalize w.alloc (.cells zArr 36 (0, 0)) = w1
  generalize w1.alloc (.cells (wrCells ([], 0)) 114 (0, 0)) = w2
  intro HG1 HB1 HS1 HW2 HB2 HV2 HVV
  obtain ⟨g, hg⟩ : ∃ g, g = w.heap.size + 1 := ⟨_, rfl⟩
  rw [← hg] at HW2 HB2 HVV ⊢
  have HGE := Lib.hid hg
  have hgs : g ≤ w2.heap.size := by rw [hg, ← HS1.out]; exact HB2.out.size
  clear hg
  have hx1 : (kind.toNat : Int) % 18446744073709551616 = (kind.toNat : Int) := by have := HK8.out; omega
  have hx2 : (b.length : Int) % 18446744073709551616 = (b.length : Int) := by omega
  have HN0 : Hid (∀ w', WrAt w' g ([], 0) → Calls Try.prog 51 #[.pointer (some ⟨g, 0, none⟩), .int .i64 2, .int .u64 19671] w' (WrTo w' g (wNum ([], 0) 2 19671))) := fun w' h => wnum_any g ([], 0) 2 19671 w' (by decide) h
  obtain ⟨s1, hs1⟩ : ∃ s1, s1 = wNum ([], 0) 2 19671 := ⟨_, rfl⟩
  rw [← hs1] at HN0 HWRT
  clear hs1
  have HN1 : Hid (∀ w', WrAt w' g s1 → Calls Try.prog 51 #[.pointer (some ⟨g, 0, none⟩), .int .i64 1, .int .u64 (kind.toNat : Int)] w' (WrTo w' g (wNum s1 1 kind.toNat))) := fun w' h => wnum_any g s1 1 kind.toNat w' (by have := HK8.out; omega) h
  obtain ⟨s2, hs2⟩ : ∃ s2, s2 = wNum s1 1 kind.toNat := ⟨_, rfl⟩
  rw [← hs2] at HN1 HWRT
  clear hs2
  have HN2 : Hid (∀ w', WrAt w' g s2 → Calls Try.prog 51 #[.pointer (some ⟨g, 0, none⟩), .int .i64 1, .int .u64 (b.length : Int)] w' (WrTo w' g (wNum s2 1 b.length))) := fun w' h => wnum_any g s2 1 b.length w' (by have := HB.out; omega) h
  obtain ⟨s3, hs3⟩ : ∃ s3, s3 = wNum s2 1 b.length := ⟨_, rfl⟩
  rw [← hs3] at HN2 HWRT
  clear hs3
  have HN3 : Hid (∀ w', WrAt w' g s3 → Byt w' (.slice sp b.length c) b → Calls Try.prog 77 #[.pointer (some ⟨g, 0, none⟩), .int .i64 120, .slice sp b.length c] w' (WrTo w' g (sealH kind b, 0))) := fun w' h hb => by have q := wbytes_any g s3 b _ 120 w' h hb; rw [HWRT.out] at q; exact q
  have HN4 : Hid (∀ w', WrAt w' g (sealH kind b, 0) → Calls Try.prog 52 #[.pointer (some ⟨g, 0, none⟩)] w' fun e w'' => e = .returned (.tuple #[secV (zpad 128 (sealH kind b)), .int .i64 0]) ∧ Below w'.heap.size w' w'') := fun w' h => wsector_ok g _ w' h
  have HO : Hid (∀ a a' s, Below g w1 a → Byt a (.slice sp b.length c) b → WrAt a' g s ∧ OnlyAt g a a' → Hid (WrAt a' g s) ∧ Hid (Below g w1 a') ∧ Hid (Byt a' (.slice sp b.length c) b)) := fun a a' s h1 h2 h3 => ⟨h3.1, h1.trans (only_below h3.2 (Nat.le_refl g)), HVV.out a' (h1.trans (only_below h3.2 (Nat.le_refl g)))⟩
  clear HWRT hgs
  go_upto_region 5 with (go_at_call 51; refine (HN0.out w2 HW2.out).mono ?_; rintro e w3 ⟨rfl, h3⟩; obtain ⟨HW3, HB3, HV3⟩ := HO.out _ _ _ HB2.out HV2.out h3; clear h3 HW2 HB2 HV2)
  go_upto_region 6 with (go_at_call 51; refine (HN1.out w3 HW3.out).mono ?_; rintro e w4 ⟨rfl, h4⟩; obtain ⟨HW4, HB4, HV4⟩ := HO.out _ _ _ HB3.out HV3.out h4; clear h4 HW3 HB3 HV3)
  go_upto_region 7 with (go_at_call 51; refine (HN2.out w4 HW4.out).mono ?_; rintro e w5 ⟨rfl, h5⟩; obtain ⟨HW5, HB5, HV5⟩ := HO.out _ _ _ HB4.out HV4.out h5; clear h5 HW4 HB4 HV4)
  go_upto_region 8 with (go_at_call 77; refine (HN3.out w5 HW5.out HV5.out).mono ?_; rintro e w6 ⟨rfl, h6⟩; obtain ⟨HW6, HB6, HV6⟩ := HO.out _ _ _ HB5.out HV5.out h6; clear h6 HW5 HB5 HV5)
  clear HN0 HN1 HN2 HN3 HO HVV hx1 hx2
  obtain ⟨l, hl⟩ : ∃ l, l = zpad 128 (sealH kind b) := ⟨_, rfl⟩
  rw [← hl] at HN4 H124 HWN
  clear hl
  have hsec : (bvs l).toArray.size = 128 := by rw [secV_size, H124.out.1]
  have HSEC := Lib.hid hsec
  clear hsec
  go_upto_region 9 with (first
    | (go_at_call 52; refine (HN4.out w6 HW6.out).mono ?_; rintro e w7 ⟨rfl, h7⟩; have HB7 := Lib.hid (HB6.out.trans (h7.mono (Nat.le_trans (Nat.le_of_eq rfl) (Nat.le_of_lt (Array.getElem?_eq_some_iff.1 HW6.out.2).1)))); clear h7 HW6 HB6 HV6; unfold secV)
    | (refine wpList_store_row rfl 36 (.tmp 7) (.tmp 29) rfl w7.heap.size zArr (bvs l).toArray 36 rfl rfl (heap_alloc_last _ _) (by rw [HSEC.out]; exact size_sec) (by rw [HSEC.out, zArr_size]) (sec_one _) ?_))
  rw [World.setRow_alloc_new]
  have hG8 := heap_alloc_last w7 (.cells (bvs l).toArray 36 (0, 0))
  have hgw : g ≤ w7.heap.size := by have := HB7.out.size; have h2 := HS1.out; have h3 := HGE.out; omega
  have HB8 := Lib.hid (HB7.out.alloc hgw (.cells (bvs l).toArray 36 (0, 0)))
  have hgs : g ≤ w7.heap.size := hgw
  revert hG8 HB8
  generalize w7.alloc (.cells (bvs l).toArray 36 (0, 0)) = w8
  intro hG8 HB8
  have HGS := Lib.hid hgs
  clear hgw hgs HB7
  revert HGS hG8
  generalize w7.heap.size = gs
  intro hG8 HGS
  have HG8 := Lib.hid hG8
  have hrd : RdB w8.drew gs 0 l := RdB.row hG8 (fun i hi => by rw [Nat.zero_add, List.getElem?_toArray, bvs_get _ _ hi])
  have hbt := byt_take (c := 128) hrd (by rw [H124.out.1]; omega) (by decide) 124 (by rw [H124.out.1]; omega)
  have HC9 := Lib.hid (crc_any (.slice (some ⟨gs, 0, none⟩) 124 128) (l.take 124) w8.drew (by rw [H124.out.2]; omega) hbt)
  obtain ⟨cc, hcc⟩ : ∃ cc, cc = crc (l.take 124) := ⟨_, rfl⟩
  have hcl : cc < 4294967296 := by rw [hcc]; exact crc_lt _
  rw [← hcc] at HC9 HWN
  clear hcc hbt hrd hG8
  have hx3 : IntKind.u64.wrap (cc : Int) = (cc : Int) := by rw [IntKind.wrap_u64]; omega
  have hpo : putOk 128 124 4 cc = true := by unfold putOk; rw [(fitsB_iff _ _ _).2 (by omega)]; simpa using hcl
  have HP9 : Hid (Calls Try.prog 107 #[.slice (some ⟨gs, 0, none⟩) 128 128, .int .i64 124, .int .i64 4, .int .u64 (cc : Int)] w8.drew fun e w' => e = .returned (.int .i64 0) ∧ w' = w8.drew.setRow gs (bvs (sealS kind b)).toArray) := by
    have q := put_row gs 0 128 128 (bvs l).toArray 36 124 4 cc w8.drew HG8.out (by rw [HSEC.out]; omega) (by decide) (by omega)
    rw [if_pos hpo, show putE 128 124 4 cc = 0 by simp [putE, hpo]] at q
    have e1 : (written (bvs l).toArray (0 + (124 : Int).toNat) (le (4 : Int).toNat cc)) = (bvs (sealS kind b)).toArray := HWN.out
    rw [e1] at q
    exact q
  clear hpo hcl
  go_region_held3 (fun _ => True) (exact trivial)
    (first
      | (go_at_call 108; refine HC9.out.mono ?_; rintro e w9 ⟨rfl, rfl⟩)
      | (go_at_call 107; refine HP9.out.mono ?_; rintro e w9 ⟨rfl, rfl⟩))
  have hG9 := setRow_heap w8.drew gs _ (bvs (sealS kind b)).toArray _ _ HG8.out
  have hB9 : Below g w1 (w8.drew.setRow gs (bvs (sealS kind b)).toArray) := HB8.out.trans ⟨rfl, rfl, rfl, by rw [setRow_size]; exact Nat.le_refl _, fun k hk => setRow_other w8.drew _ _ _ (by have := HGS.out; omega)⟩
  have hT9 := (hB9.block w.heap.size (by have := HGE.out; omega)).trans HG1.out
  have hBw := HB1.out.trans (hB9.mono (by have := HGE.out; omega))
  revert hG9 hT9 hBw
  clear hB9
  generalize w8.drew.setRow gs (bvs (sealS kind b)).toArray = w9
  intro hG9 hT9 hBw
  have HG9 := Lib.hid hG9
  have HT9 := Lib.hid hT9
  have HBW := Lib.hid hBw
  clear hG9 hT9 hBw
  have hsz : (bvs (sealS kind b)).toArray.size = 128 := by rw [secV_size, HS.out]
  have HSZ := Lib.hid hsz
  clear hsz
  go_wp2_with (first
    | (refine wpList_load_row rfl 36 (.tmp 7) rfl gs rfl _ _ _ _ HG9.out Try.underlying36 rfl (by rw [HSZ.out]; exact size_sec) ?_)
    | (refine wpList_store_row rfl 36 (.tmp 4) (.tmp 36) rfl w.heap.size zArr (bvs (sealS kind b)).toArray 36 rfl rfl HT9.out (by rw [HSZ.out]; exact size_sec) (by rw [HSZ.out, zArr_size]) (sec_one _) ?_))
  have hld := run_loadVar_row (P := Try.prog) (w9.setRow w.heap.size (bvs (sealS kind b)).toArray) w.heap.size 36 36 (bvs (sealS kind b)).toArray (0, 0) _ (setRow_heap _ _ _ _ _ _ HT9.out) Try.underlying36 (by simp) (by rw [HSZ.out]; exact size_sec)
  refine bodyPost_ret (v := .tuple #[secV (sealS kind b), .int .i64 0]) (results_cell2 Try.results53 rfl rfl hld) rfl ⟨rfl, ?_⟩
  exact HBW.out.trans ⟨rfl, rfl, rfl, by rw [setRow_size]; exact Nat.le_refl _, fun k hk => setRow_other _ _ _ _ (by omega)⟩
theorem make_any (kind : UInt8) (v : Value) (b : List UInt8) (w : World) (hv : Byt w v b) :
    Calls Try.prog 53 #[.int .u8 (kind.toNat : Int), v] w fun e w' => e = .returned (.tuple #[secV (makeS kind b), .int .i64 (makeE kind b)]) ∧ Below w.heap.size w w' := by
  cases hm : mayB kind b with
  | true => unfold makeS makeE; rw [hm]; exact make_yes kind v b w hv hm
  | false => unfold makeS makeE; rw [hm]; exact make_no kind v b w hv hm
end Go.Proofs.Ytcpfafmkhegckaa
