/-
  A block of a directory: the reference's Write.
-/
import Derived.Test.YtcgfhpgjaibmhaaDirH
import Derived.Test.YtcgfhpgjaibmhaaRef01
namespace Go.Proofs.Ytcgfhpgjaibmhaa
open Go.RowKit
set_option linter.unusedVariables false
set_option linter.unusedSimpArgs false
theorem dw_len (E : List Ent) (h : entsOk E = true) : (entsB E 4).length = 128 := ents_len E 4 (Nat.le_refl _) (fun i hi => entsOk_at h i hi)
theorem full_dw (E : List Ent) (h : entsOk E = true) : full (entsB E 4) = entsB E 4 := by
  have hl := dw_len E h
  unfold full; rw [List.take_of_length_le (by omega), hl]; simp
theorem own_form {w : World} {base e n : Nat} {v : Value} {xs : List Value} (h : w.ownsRow base e 1 v n xs) : ∃ sp c, v = .slice sp n c := by
  rcases h.2 with ⟨h1, h0⟩ | ⟨g, cap, cur, h1, _⟩
  · exact ⟨none, 0, by rw [h1, h0]⟩
  · exact ⟨_, cap, h1⟩
theorem size_rents : (Try.prog.info? 29).map (·.size) = some 8 := by kernel_rfl
theorem own_none' (w : World) (base e : Nat) : w.ownsRow base e 1 (.slice none 0 0) 0 (bvs []) := ⟨by simp [bvs], .inl ⟨rfl, rfl⟩⟩
set_option maxHeartbeats 2000000 in
set_option maxRecDepth 10000 in
theorem rwrite06_no (n0 n1 n2 n3 : Int) (s0 s1 s2 s3 : ByteArray) (w : World) (hsz : ∀ i, i < 4 → (eAt (entsL n0 n1 n2 n3 s0 s1 s2 s3) i).2.size ≤ 1000) (hno : entsOk (entsL n0 n1 n2 n3 s0 s1 s2 s3) = false) :
    Calls Try.prog 16 #[entsV (n0, s0) (n1, s1) (n2, s2) (n3, s3)] w fun e w' => e = .returned (.tuple #[.agg zArr, .bool false]) ∧ Below w.heap.size w w' := by
  have hza := zero_arr
  have HM := fun w' => Lib.hid (rmay06_any n0 n1 n2 n3 s0 s1 s2 s3 w' hsz)
  rw [hno] at HM
  clear hsz hno
  unfold entsV at HM ⊢
  go_enter Try.func16, Try.ntmps16
  go_upto_region 1 with fail
  have hT : ((w.alloc (.cells #[.int .i64 n0, .string s0, .int .i64 n1, .string s1, .int .i64 n2, .string s2, .int .i64 n3, .string s3] 29 (0, 0))).alloc (.cells zArr 36 (0, 0))).heap[w.heap.size + 1]? = some (.cells zArr 36 (0, 0)) := by
    have := heap_alloc_last (w.alloc (.cells #[.int .i64 n0, .string s0, .int .i64 n1, .string s1, .int .i64 n2, .string s2, .int .i64 n3, .string s3] 29 (0, 0))) (.cells zArr 36 (0, 0))
    rwa [show (w.alloc (.cells #[.int .i64 n0, .string s0, .int .i64 n1, .string s1, .int .i64 n2, .string s2, .int .i64 n3, .string s3] 29 (0, 0))).heap.size = w.heap.size + 1 by simp] at this
  have hB : Below w.heap.size w ((w.alloc (.cells #[.int .i64 n0, .string s0, .int .i64 n1, .string s1, .int .i64 n2, .string s2, .int .i64 n3, .string s3] 29 (0, 0))).alloc (.cells zArr 36 (0, 0))) := ((Below.refl _ _).alloc (Nat.le_refl _) _).alloc (by simp) _
  have HT := Lib.hid hT
  have HB := Lib.hid hB
  clear hT hB
  go_wp2_with (first
    | (go_at_call 28; go_must (refine (HM _).out.mono ?_; rintro e w2 ⟨rfl, hb2⟩; have HT2 := Lib.hid (heap_keep HT.out hb2); have HB2 := Lib.hid (bnext HB.out hb2); clear hb2))
    | (refine wpList_store_row rfl 36 (.tmp 2) (.tmp 9) rfl (w.heap.size + 1) zArr zArr 36 rfl rfl HT2.out (by rw [zArr_size]; exact size_arr) rfl zArr_one ?_))
  have hld := run_loadVar_row (P := Try.prog) (w2.setRow (w.heap.size + 1) zArr) (w.heap.size + 1) 36 36 zArr (0, 0) _ (setRow_heap _ _ _ _ _ _ HT2.out) Try.underlying36 (by simp) (by rw [zArr_size]; exact size_arr)
  refine bodyPost_ret (v := .tuple #[.agg zArr, .bool false]) (results_cell2 Try.results16 rfl rfl hld) rfl ⟨rfl, ?_⟩
  exact HB2.out.trans ⟨rfl, rfl, rfl, by rw [setRow_size]; exact Nat.le_refl _, fun k hk => setRow_other _ _ _ _ (by omega)⟩
set_option maxHeartbeats 4000000 in
set_option maxRecDepth 10000 in
theorem rwrite06_yes (n0 n1 n2 n3 : Int) (s0 s1 s2 s3 : ByteArray) (w : World) (hsz : ∀ i, i < 4 → (eAt (entsL n0 n1 n2 n3 s0 s1 s2 s3) i).2.size ≤ 1000) (hok : entsOk (entsL n0 n1 n2 n3 s0 s1 s2 s3) = true) :
    Calls Try.prog 16 #[entsV (n0, s0) (n1, s1) (n2, s2) (n3, s3)] w fun e w' => e = .returned (.tuple #[secV (entsB (entsL n0 n1 n2 n3 s0 s1 s2 s3) 4), .bool true]) ∧ Below w.heap.size w w' := by
  have hza := zero_arr
  have HM := fun w' => Lib.hid (rmay06_any n0 n1 n2 n3 s0 s1 s2 s3 w' hsz)
  rw [hok] at HM
  obtain ⟨E, hE⟩ : ∃ E, E = entsL n0 n1 n2 n3 s0 s1 s2 s3 := ⟨_, rfl⟩
  have HE := Lib.hid hE
  rw [← hE] at hok ⊢
  have HOK := Lib.hid hok
  have HFU := Lib.hid (full_dw E hok)
  have HDL := Lib.hid (dw_len E hok)
  clear hsz hok hE
  unfold entsV at HM ⊢
  go_enter Try.func16, Try.ntmps16
  go_upto_region 1 with fail
  have hg0 := heap_alloc_last w (.cells #[.int .i64 n0, .string s0, .int .i64 n1, .string s1, .int .i64 n2, .string s2, .int .i64 n3, .string s3] 29 (0, 0))
  have hg1 := heap_keep hg0 ((Below.refl _ _).alloc (Nat.le_refl _) (.cells zArr 36 (0, 0)))
  have hT : ((w.alloc (.cells #[.int .i64 n0, .string s0, .int .i64 n1, .string s1, .int .i64 n2, .string s2, .int .i64 n3, .string s3] 29 (0, 0))).alloc (.cells zArr 36 (0, 0))).heap[w.heap.size + 1]? = some (.cells zArr 36 (0, 0)) := by
    have := heap_alloc_last (w.alloc (.cells #[.int .i64 n0, .string s0, .int .i64 n1, .string s1, .int .i64 n2, .string s2, .int .i64 n3, .string s3] 29 (0, 0))) (.cells zArr 36 (0, 0))
    rwa [show (w.alloc (.cells #[.int .i64 n0, .string s0, .int .i64 n1, .string s1, .int .i64 n2, .string s2, .int .i64 n3, .string s3] 29 (0, 0))).heap.size = w.heap.size + 1 by simp] at this
  have hB : Below w.heap.size w ((w.alloc (.cells #[.int .i64 n0, .string s0, .int .i64 n1, .string s1, .int .i64 n2, .string s2, .int .i64 n3, .string s3] 29 (0, 0))).alloc (.cells zArr 36 (0, 0))) := ((Below.refl _ _).alloc (Nat.le_refl _) _).alloc (by simp) _
  have HT := Lib.hid hT
  have HB := Lib.hid hB
  have HG := Lib.hid hg1
  clear hT hB hg0 hg1
  go_upto_region 3 with (go_at_call 28; go_must (refine (HM _).out.mono ?_; rintro e w2 ⟨rfl, hb2⟩; have HT2 := Lib.hid (heap_keep HT.out hb2); have HG2 := Lib.hid (heap_keep HG.out hb2); have HB2 := Lib.hid (bnext HB.out hb2); clear hb2))
  clear HT HB HG HM
  have hEA : EntsAt w2 w.heap.size E := by rw [HE.out]; exact entsAt_row HG2.out
  have HEA := Lib.hid hEA
  clear hEA
  go_wp2
  go_loopw [4, 5] (fun v i wr => ∃ j : Nat, j ≤ 4 ∧ i = .int .i64 j ∧ Hid (wr.ownsRow w2.heap.size 5 1 v (32 * j) (bvs (entsB E j))) ∧ Hid (Below w2.heap.size w2 wr)) (fun _ i _ => (4 - intOf i).toNat)
  case atStart => exact ⟨0, by omega, by rfl, Lib.hid (by simpa [entsB] using own_none' w2 w2.heap.size 5), Lib.hid (Below.refl _ _)⟩
  case round =>
    obtain ⟨j, hj, rfl, HO, HBB⟩ := hrel
    by_cases hj4 : j < 4
    · obtain ⟨c0, c1⟩ := (HEA.out.below HBB.out) j hj4
      have hej := entsOk_at HOK.out j hj4
      have hent : entsB E (j + 1) = entsB E j ++ entBs (eAt E j) := rfl
      obtain ⟨k, hk, hk200, hl26⟩ := may_bounds hej
      obtain ⟨s, hs⟩ : ∃ s, s = (eAt E j).2 := ⟨_, rfl⟩
      have hbs : entBs (eAt E j) = entB k s := by unfold entBs; rw [hk, hs]; rfl
      rw [hbs] at hent
      rw [hk] at c0
      rw [← hs] at c1 hl26
      obtain ⟨P, hP⟩ : ∃ P, P = entsB E j := ⟨_, rfl⟩
      rw [← hP] at HO hent
      have HENT := Lib.hid hent
      have HSX : Hid ((eAt E j).2 = s) := hs.symm
      have HL26 := Lib.hid hl26
      have HK := Lib.hid hk200
      have hx1 : (k : Int) % 18446744073709551616 = (k : Int) := by omega
      have hx2 : (s.size : Int) % 256 = (s.size : Int) := by omega
      have HLO := fun w' => Lib.hid (low_any k 2 w' (by omega) (by decide))
      have hcs := fun W : World => run_bytes_of_string (P := Try.prog) W 9 45 5 s Try.underlying9 Try.underlying45 Try.underlying5
      clear hej hk hk200 hl26 hs hbs hent hP
      go_upto_region 8 with (first
        | (go_at_call 29; go_must (refine (HLO _).out.mono ?_; rintro e w3 ⟨v3, rfl, ho3, hb3⟩; have HR3 := Lib.hid (own_rd ho3); have HO3 := Lib.hid (own_below HO.out hb3); have HB3 := Lib.hid (HBB.out.trans (hb3.mono HBB.out.size)); clear ho3 hb3))
        | (at_builtin; refine wpList_append_rd _ rfl (.tmp 14) (.tmp 20) 45 rfl w2.heap.size 5 (.int .u8 0) 1 1 Try.underlying45 infoU8 rfl (by decide) _ _ _ rfl HO3.out _ _ _ rfl HR3.out (bvs_oneCell _) ?c2 (by decide) HB3.out.size ?_; (case c2 => simp; omega); intro v4 w4 hown4 hbel4 hg4; rw [← bvs_append] at hown4; have HO4 := Lib.hid hown4; have HB4 := Lib.hid (HB3.out.trans hbel4); clear hown4 hbel4 hg4))
      have h2 : (le 2 k).length = 2 := le_length 2 k
      rw [h2] at HO4
      have c1 : w4.cell? ⟨w.heap.size, j * 2 + 1, none⟩ = some (.string s) := by
        have q := ((HEA.out.below HB4.out) j hj4).2
        rw [HSX.out] at q; exact q
      clear h2 HR3 HO3 HB3
      have hrd := rd_one (heap_alloc_new w4 (.cells #[.int .u8 (s.size : Int)] 5 (0, 0))) 1
      have HRD := Lib.hid hrd
      have HOA := Lib.hid (HO4.out.alloc (.cells #[.int .u8 (s.size : Int)] 5 (0, 0)))
      have HBA := Lib.hid (HB4.out.alloc HB4.out.size (.cells #[.int .u8 (s.size : Int)] 5 (0, 0)))
      clear hrd
      go_upto_region 9 with (at_builtin; refine wpList_append_rd _ rfl (.tmp 22) (.tmp 29) 45 rfl w2.heap.size 5 (.int .u8 0) 1 1 Try.underlying45 infoU8 rfl (by decide) _ _ _ rfl HOA.out _ 1 [.int .u8 (s.size : Int)] rfl HRD.out ?c1 ?c2 (by decide) HBA.out.size ?_; (case c1 => intro u hu; simp at hu; subst hu; rfl); (case c2 => omega); intro v5 w5 hown5 hbel5 hg5; have HO5 := Lib.hid hown5; have HB5 := Lib.hid (HBA.out.trans hbel5); clear hown5 hbel5 hg5)
      have c1 : w5.cell? ⟨w.heap.size, j * 2 + 1, none⟩ = some (.string s) := by
        have q := ((HEA.out.below HB5.out) j hj4).2
        rw [HSX.out] at q; exact q
      have hu8 : [Value.int .u8 (s.size : Int)] = bvs [UInt8.ofNat s.size] := by
        have : (UInt8.ofNat s.size).toNat = s.size := by have := HL26.out; simp; omega
        simp [bvs, bval, this]
      rw [hu8, ← bvs_append] at HO5
      clear hu8 HO4 HOA HBA HRD HB4
      have hsl : s.data.toList.length = s.size := by simp
      have HYS := fun fr => Lib.hid (byt_str' w5 5 s fr (by have := HL26.out; unfold maxLen; omega)).rd
      have HSL := Lib.hid hsl
      have HOC := fun o => Lib.hid (own_below HO5.out (conv_below' w5 o))
      have HBC := fun o => Lib.hid (HB5.out.trans ((conv_below' w5 o).mono HB5.out.size))
      clear hsl
      go_upto_region 10 with (at_builtin; refine wpList_append_rd _ rfl (.tmp 31) (.tmp 36) 45 rfl w2.heap.size 5 (.int .u8 0) 1 1 Try.underlying45 infoU8 rfl (by decide) _ _ _ rfl (HOC _).out _ _ _ rfl (HYS _).out (bvs_oneCell _) ?c2 (by decide) (HBC _).out.size ?_; (case c2 => rw [HSL.out]; have := HL26.out; omega); intro v6 w6 hown6 hbel6 hg6; rw [← bvs_append, HSL.out] at hown6; have HO6 := Lib.hid hown6; have HB6 := Lib.hid ((HBC _).out.trans hbel6); clear hown6 hbel6 hg6)
      obtain ⟨Q, hQ⟩ : ∃ Q, Q = P ++ le 2 k ++ [UInt8.ofNat s.size] ++ s.data.toList := ⟨_, rfl⟩
      have hfin : Q ++ List.replicate (29 - s.size) 0 = entsB E (j + 1) := by rw [HENT.out, hQ]; simp [entB]
      rw [← hQ] at HO6
      have HFIN := Lib.hid hfin
      have hsz6 : 32 * j + 2 + 1 + s.size = 32 * j + 3 + s.size := by omega
      rw [hsz6] at HO6
      have hl := HL26.out
      clear hQ hfin hsz6 HO HBB HO5 HB5 HYS HOC HBC c0 c1 hcs HLO HENT
      obtain ⟨sp6, cp6, rfl⟩ := own_form HO6.out
      go_loopw [4] (fun v wr => ∃ m : Nat, m + s.size ≤ 29 ∧ (∃ sp' c', v = .slice sp' (32 * j + 3 + s.size + m) c') ∧ Hid (wr.ownsRow w2.heap.size 5 1 v (32 * j + 3 + s.size + m) (bvs (Q ++ List.replicate m 0))) ∧ Hid (Below w2.heap.size w2 wr)) (fun v _ => match v with | .slice _ n _ => 128 - n | _ => 0)
      case atStart => exact ⟨0, by omega, ⟨sp6, cp6, rfl⟩, by simpa using HO6, HB6⟩
      case round =>
        obtain ⟨m, hm, ⟨sp', c', rfl⟩, HOI, HBI⟩ := hrel
        by_cases hlt : m + s.size < 29
        · have hrd := rd_one (heap_alloc_new wr (.cells #[.int .u8 0] 5 (0, 0))) 1
          have HR := Lib.hid hrd
          have HW := Lib.hid (HOI.out.alloc (.cells #[.int .u8 0] 5 (0, 0)))
          have HBE := Lib.hid (HBI.out.alloc HBI.out.size (.cells #[.int .u8 0] 5 (0, 0)))
          clear hrd
          go_wp2_with (at_builtin; refine wpList_append_rd _ rfl (.tmp 44) (.tmp 45) 45 rfl w2.heap.size 5 (.int .u8 0) 1 1 Try.underlying45 infoU8 rfl (by decide) _ _ _ rfl HW.out _ 1 [.int .u8 0] rfl HR.out ?c1 ?c2 (by decide) HBE.out.size ?_; (case c1 => intro u hu; simp at hu; subst hu; rfl); (case c2 => omega); intro v8 w8 hown8 hbel8 hg8; have HO8 := Lib.hid hown8; have HB8 := Lib.hid (HBE.out.trans hbel8); clear hown8 hbel8 hg8)
          obtain ⟨sp8, c8, rfl⟩ := own_form HO8.out
          refine ⟨⟨m + 1, by omega, ⟨sp8, c8, rfl⟩, Lib.hid ?_, HB8⟩, ?_⟩
          · have h8 := HO8.out
            rw [List.replicate_succ', ← List.append_assoc, bvs_append]
            exact h8
          · show 128 - (32 * j + 3 + s.size + m + 1) < 128 - (32 * j + 3 + s.size + m); omega
        · obtain rfl : m = 29 - s.size := by omega
          have h32 : 32 * j + 3 + s.size + (29 - s.size) = 32 * (j + 1) := by omega
          rw [h32] at HOI ⊢
          rw [HFIN.out] at HOI
          clear h32 hlt hm
          go_wp2
          exact ⟨⟨j + 1, by omega, by go_num, HOI, HBI⟩, by simp [intOf] <;> omega⟩
    · obtain rfl : j = 4 := by omega
      have hby := (own_byt HO.out).1
      have HFL := Lib.hid (full_any _ (entsB E 4) wr (by rw [HDL.out]; decide) hby)
      rw [HFU.out] at HFL
      have HMS : Hid ((bvs (entsB E 4)).toArray.size = 128) := by unfold Hid; rw [secV_size, HDL.out]
      obtain ⟨m, hm⟩ : ∃ m, m = entsB E 4 := ⟨_, rfl⟩
      rw [← hm] at HFL HMS
      have HMD := Lib.hid hm
      clear hm hby
      unfold secV at HFL
      have HTR := Lib.hid ((HBB.out.block (w.heap.size + 1) (Array.getElem?_eq_some_iff.1 HT2.out).1).trans HT2.out)
      have HBR := Lib.hid (bnext HB2.out HBB.out)
      go_wp2_with (first
        | (go_at_call 18; go_must (refine HFL.out.mono ?_; rintro e w9 ⟨rfl, hb9⟩; have HT9 := Lib.hid (heap_keep HTR.out hb9); have HB9 := Lib.hid (bnext HBR.out hb9); clear hb9))
        | (refine wpList_store_row rfl 36 (.tmp 2) (.tmp 48) rfl (w.heap.size + 1) zArr (bvs m).toArray 36 rfl rfl HT9.out (by rw [HMS.out]; exact size_arr) (by rw [HMS.out, zArr_size]) (sec_one _) ?_))
      have hld := run_loadVar_row (P := Try.prog) (w9.setRow (w.heap.size + 1) (bvs m).toArray) (w.heap.size + 1) 36 36 (bvs m).toArray (0, 0) _ (setRow_heap _ _ _ _ _ _ HT9.out) Try.underlying36 (by simp) (by rw [HMS.out]; exact size_arr)
      refine bodyPost_ret (v := .tuple #[secV m, .bool true]) (results_cell2 Try.results16 rfl rfl hld) rfl ⟨by rw [HMD.out], ?_⟩
      exact HB9.out.trans ⟨rfl, rfl, rfl, by rw [setRow_size]; exact Nat.le_refl _, fun k hk => setRow_other _ _ _ _ (by omega)⟩
theorem rwrite06_any (n0 n1 n2 n3 : Int) (s0 s1 s2 s3 : ByteArray) (w : World) (hsz : ∀ i, i < 4 → (eAt (entsL n0 n1 n2 n3 s0 s1 s2 s3) i).2.size ≤ 1000) :
    Calls Try.prog 16 #[entsV (n0, s0) (n1, s1) (n2, s2) (n3, s3)] w fun e w' => e = .returned (.tuple #[secV (dwS (entsL n0 n1 n2 n3 s0 s1 s2 s3)), .bool (entsOk (entsL n0 n1 n2 n3 s0 s1 s2 s3))]) ∧ Below w.heap.size w w' := by
  cases h : entsOk (entsL n0 n1 n2 n3 s0 s1 s2 s3) with
  | true => unfold dwS; rw [h]; exact rwrite06_yes n0 n1 n2 n3 s0 s1 s2 s3 w hsz h
  | false => unfold dwS; rw [h]; exact rwrite06_no n0 n1 n2 n3 s0 s1 s2 s3 w hsz h
end Go.Proofs.Ytcgfhpgjaibmhaa
