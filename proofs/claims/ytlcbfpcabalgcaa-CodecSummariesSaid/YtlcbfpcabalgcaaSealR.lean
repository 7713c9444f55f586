/-
  Sealed sectors: the walks of the reference's Make and Open.
-/
import Derived.Test.YtlcbfpcabalgcaaSealP
import Derived.Test.YtlcbfpcabalgcaaRef01
import Derived.Deep.DeepCutAuto
import Derived.Deep.CutBlock
import Derived.IntWalk
namespace Go.Proofs.Ytlcbfpcabalgcaa
open Go.RowKit
set_option linter.unusedVariables false
set_option linter.unusedSimpArgs false
theorem full_of_le (l : List UInt8) (h : l.length = 128) : full l = l := by
  unfold full; rw [List.take_of_length_le (by omega), h]; simp
set_option maxHeartbeats 1000000 in
set_option maxRecDepth 10000 in
theorem rmake_no (kind : UInt8) (v : Value) (b : List UInt8) (w : World) (hv : Byt w v b) (hm : mayB kind b = false) :
    Calls Try.prog 57 #[.int .u8 (kind.toNat : Int), v] w fun e w' => e = .returned (.tuple #[secV (List.replicate 128 0), .bool false]) ∧ Below w.heap.size w w' := by
  obtain ⟨sp, c, rfl⟩ : ∃ sp c, v = .slice sp b.length c := by
    rcases hv with ⟨rfl, A, c, rfl, _⟩ | ⟨b', o, c, rfl, _, _, hr⟩
    · exact ⟨A, c, rfl⟩
    · exact ⟨_, c, rfl⟩
  have hz := zero_arr
  have hcut : ∀ K : Prop, (((kind.toNat : Int) == 0) = true → K) → (((kind.toNat : Int) == 0) = false → (120 : Int) < b.length → K) → K := fun K x y => by
    by_cases hk : kind = 0
    · subst hk; exact x rfl
    · refine y ?_ ?_
      · have : kind.toNat ≠ 0 := fun h => hk (UInt8.toNat_inj.1 h)
        simpa using this
      · rcases (mayB_not _ _).1 hm with h | h
        · exact absurd h hk
        · omega
  clear hv hm
  refine hcut _ ?_ ?_ <;> clear hcut <;> intros
  all_goals
    go_enter Try.func57, Try.ntmps57
    go_wp2_with (refine wpList_store_row rfl 28 (.tmp 4) (.tmp 14) rfl w.heap.size zArr zArr 28 rfl rfl (heap_alloc_last _ _) (by rw [zArr_size]; exact size_arr) rfl zArr_one ?_)
    have hld := run_loadVar_row (P := Try.prog) ((w.alloc (.cells zArr 28 (0, 0))).setRow w.heap.size zArr) w.heap.size 28 28 zArr (0, 0) _ (setRow_heap _ _ _ _ _ _ (heap_alloc_last _ _)) Try.underlying28 (by simp) (by rw [zArr_size]; exact size_arr)
    refine bodyPost_ret (v := .tuple #[secV (List.replicate 128 0), .bool false]) (results_cell2 Try.results57 rfl rfl hld) rfl ⟨rfl, ?_⟩
    rw [World.setRow_alloc_new]
    exact (Below.refl _ _).alloc (Nat.le_refl _) _
def headL (kind : UInt8) (b : List UInt8) : List UInt8 := [215, 76, kind, UInt8.ofNat b.length] ++ b
theorem headL_length (k : UInt8) (b : List UInt8) : (headL k b).length = b.length + 4 := by simp [headL]
theorem headL_pad (k : UInt8) (b : List UInt8) : headL k b ++ List.replicate (120 - b.length) 0 = sealH k b := by simp [headL, sealH]
theorem own_lit (w : World) (e : Nat) (cs : List Value) (n : Nat) (hn : cs.length = n) (hm : n ≤ maxLen) : (w.alloc (.cells cs.toArray e (0, 0))).ownsRow w.heap.size e 1 (.slice (some ⟨w.heap.size, 0, none⟩) n n) n cs :=
  ⟨by simp [hn], .inr ⟨w.heap.size, n, cs.toArray, rfl, Nat.le_refl _, heap_alloc_last w _, Nat.le_refl _, hm, by simp [hn], by simp [← hn]⟩⟩
set_option maxHeartbeats 1000000 in
set_option maxRecDepth 10000 in
theorem rmake_yes (kind : UInt8) (v : Value) (b : List UInt8) (w : World) (hv : Byt w v b) (hm : mayB kind b = true) :
    Calls Try.prog 57 #[.int .u8 (kind.toNat : Int), v] w fun e w' => e = .returned (.tuple #[secV (sealS kind b), .bool true]) ∧ Below w.heap.size w w' := by
  obtain ⟨hk0, hb⟩ := (mayB_iff _ _).1 hm
  have hrd0 := hv.rd
  obtain ⟨sp, c, rfl⟩ : ∃ sp c, v = .slice sp b.length c := by
    rcases hv with ⟨rfl, A, c, rfl, _⟩ | ⟨b', o, c, rfl, _, _, hr⟩
    · exact ⟨A, c, rfl⟩
    · exact ⟨_, c, rfl⟩
  have hk : ((kind.toNat : Int) == 0) = false := by
    have : kind.toNat ≠ 0 := fun h => hk0 (UInt8.toNat_inj.1 h)
    simpa using this
  have hz := zero_arr
  have hg1 : (w.alloc (.cells zArr 28 (0, 0))).heap[w.heap.size]? = some (.cells zArr 28 (0, 0)) := heap_alloc_last _ _
  have hb1 : Below w.heap.size w (w.alloc (.cells zArr 28 (0, 0))) := (Below.refl _ _).alloc (Nat.le_refl _) _
  have hs1 : (w.alloc (.cells zArr 28 (0, 0))).heap.size = w.heap.size + 1 := by simp
  have hrd1 := hrd0.below hb1
  have HG1 := Lib.hid hg1
  have HB1 := Lib.hid hb1
  have HS1 := Lib.hid hs1
  have HRD := Lib.hid hrd1
  have HB := Lib.hid hb
  clear hv hm hk0 hrd0 hg1 hb1 hs1 hrd1
  have hlen : ¬ ((120 : Int) < (b.length : Int)) := by omega
  have hx1 : (b.length : Int) % 256 = (b.length : Int) := by omega
  clear hb
  go_enter Try.func57, Try.ntmps57
  go_upto_region 3 with fail
  revert HG1 HB1 HS1 HRD
  generalize w.alloc (.cells zArr 28 (0, 0)) = w1
  intro HG1 HB1 HS1 HRD
  have hown0 := own_lit w1 5 [.int .u8 215, .int .u8 76, .int .u8 (kind.toNat : Int), .int .u8 (b.length : Int)] 4 rfl (by decide)
  have hbel0 := (Below.refl w1.heap.size w1).alloc (Nat.le_refl _) (.cells #[.int .u8 215, .int .u8 76, .int .u8 (kind.toNat : Int), .int .u8 (b.length : Int)] 5 (0, 0))
  have hrd := HRD.out.below hbel0
  have HRB := Lib.hid hrd
  have HOW := Lib.hid hown0
  have HBL := Lib.hid hbel0
  clear hrd hown0 hbel0 HRD
  go_wp2_with (at_builtin; refine wpList_append_rd _ rfl (.tmp 19) (.tmp 20) 26 rfl w1.heap.size 5 (.int .u8 0) 1 1 Try.underlying26 infoU8 rfl (by decide) _ 4 _ rfl HOW.out (.slice sp b.length c) b.length (bvs b) rfl HRB.out (bvs_oneCell b) ?c2 (by decide) HBL.out.size ?_; (case c2 => have := HB.out; omega); intro v2 w2 hown2 hbel2 hg2; have HO2 := Lib.hid hown2; have HB2 := Lib.hid (HBL.out.trans hbel2); clear hown2 hbel2 hg2)
  have hh : [.int .u8 215, .int .u8 76, .int .u8 (kind.toNat : Int), .int .u8 (b.length : Int)] ++ bvs b = bvs (headL kind b) := by
    unfold headL
    rw [bvs_append]
    congr 1
    have : (UInt8.ofNat b.length).toNat = b.length := by have := HB.out; simp; omega
    simp [bvs, bval, this]
  rw [hh] at HO2
  clear hh HOW HRB HBL hx1 hlen
  have HLN := Lib.hid (headL_length kind b)
  go_loopw [6] (fun v wr => ∃ j : Nat, j + b.length ≤ 120 ∧ (∃ sp' c', v = .slice sp' (4 + b.length + j) c') ∧ Hid (wr.ownsRow w1.heap.size 5 1 v (4 + b.length + j) (bvs (headL kind b ++ List.replicate j 0))) ∧ Hid (Below w1.heap.size w1 wr)) (fun v _ => match v with | .slice _ n _ => 124 - n | _ => 0)
  case atStart =>
    have hf : ∃ sp' c', v2 = .slice sp' (4 + b.length) c' := by
      rcases HO2.out.2 with ⟨h, h0⟩ | ⟨g, cap, cur, h, _⟩
      · exact ⟨none, 0, by rw [h, h0]⟩
      · exact ⟨_, cap, h⟩
    exact ⟨0, by have := HB.out; omega, hf, by simpa using HO2, HB2⟩
  case round =>
    obtain ⟨j, hj, ⟨sp', c', rfl⟩, HO, HBB⟩ := hrel
    have hsz := HBB.out.size
    by_cases hlt : j + b.length < 120
    · have hrd := rd_one (heap_alloc_new wr (.cells #[.int .u8 0] 5 (0, 0))) 1
      have hbel2 := HBB.out.alloc hsz (.cells #[.int .u8 0] 5 (0, 0))
      have hown := HO.out.alloc (.cells #[.int .u8 0] 5 (0, 0))
      have HW := Lib.hid hown
      have HR := Lib.hid hrd
      have HBE := Lib.hid hbel2
      clear hrd hbel2 hown hsz
      go_wp2_with (at_builtin; refine wpList_append_rd _ rfl (.tmp 25) (.tmp 26) 26 rfl w1.heap.size 5 (.int .u8 0) 1 1 Try.underlying26 infoU8 rfl (by decide) _ _ _ rfl HW.out _ 1 [.int .u8 0] rfl HR.out ?c1 ?c2 (by decide) HBE.out.size ?_; (case c1 => intro u hu; simp at hu; subst hu; rfl); (case c2 => omega); intro v3 w3 hown3 hbel3 hg3; have HO3 := Lib.hid hown3; have HB3 := Lib.hid (HBE.out.trans hbel3); clear hown3 hbel3 hg3)
      have hf : ∃ sp' c', v3 = .slice sp' (4 + b.length + j + 1) c' := by
        rcases HO3.out.2 with ⟨h, h0⟩ | ⟨g, cap, cur, h, _⟩
        · exact ⟨none, 0, by rw [h, h0]⟩
        · exact ⟨_, cap, h⟩
      obtain ⟨sp3, c3, rfl⟩ := hf
      go_roundw
      case rel =>
        refine ⟨j + 1, by omega, ⟨sp3, c3, rfl⟩, Lib.hid ?_, HB3⟩
        have h3 := HO3.out
        rw [List.replicate_succ', ← List.append_assoc, bvs_append]
        exact h3
      case measure => show 124 - (4 + b.length + j + 1) < 124 - (4 + b.length + j); omega
    · obtain rfl : j = 120 - b.length := by omega
      have h4 : 4 + b.length + (120 - b.length) = 124 := by omega
      rw [h4] at HO ⊢
      rw [headL_pad] at HO
      clear h4 hlt hj HLN hsz
      have hby := (own_byt HO.out).1
      have HC := Lib.hid (rcrc_any _ (sealH kind b) wr (by rw [sealH_length _ _ HB.out]; omega) hby)
      obtain ⟨cc, hcc⟩ : ∃ cc, cc = crc (sealH kind b) := ⟨_, rfl⟩
      have hcl : cc < 4294967296 := by rw [hcc]; exact crc_lt _
      have hS : sealH kind b ++ le 4 cc = sealS kind b := by rw [hcc]; rfl
      rw [← hcc] at HC
      have HS := Lib.hid hS
      have HCL := Lib.hid hcl
      clear hby hcc hS
      have hx3 : (cc : Int) % 18446744073709551616 = (cc : Int) := by omega
      clear hcl
      have HL8 : ∀ w' : World, Hid (Calls Try.prog 56 #[.int .u64 (cc : Int), .int .i64 4] w' (RetB 5 w' (le 4 cc))) := fun w' => low_any cc 4 w' (by have := HCL.out; omega) (by decide)
      have hle4 : (le 4 cc).length = 4 := le_length 4 cc
      obtain ⟨lo, hlo⟩ : ∃ lo, lo = le 4 cc := ⟨_, rfl⟩
      rw [← hlo] at HL8 HS hle4
      have HLE := Lib.hid hle4
      clear hlo hle4
      have hsl := sealS_length kind b HB.out
      have HSL := Lib.hid hsl
      have hfu := full_of_le (sealS kind b) hsl
      have HFU := Lib.hid hfu
      have hszs : (bvs (sealS kind b)).toArray.size = 128 := by rw [secV_size, hsl]
      have HSZ := Lib.hid hszs
      clear hsl hfu hszs
      go_wp2_with (first
        | (go_at_call 51; refine HC.out.mono ?_; rintro e w4 ⟨rfl, rfl⟩)
        | (go_at_call 56; refine (HL8 _).out.mono ?_; rintro e w4 ⟨v4, rfl, ho4, hb4⟩; have HO4 := Lib.hid (own_rd ho4); have HOB := Lib.hid (own_below HO.out hb4); have HBE := Lib.hid (HBB.out.trans (hb4.mono HBB.out.size)); clear ho4 hb4; rw [HLE.out] at HO4)
        | (at_builtin; refine wpList_append_rd _ rfl (.tmp 28) (.tmp 32) 26 rfl w1.heap.size 5 (.int .u8 0) 1 1 Try.underlying26 infoU8 rfl (by decide) _ 124 _ rfl HOB.out _ 4 (bvs lo) rfl HO4.out (bvs_oneCell _) (by decide) (by decide) HBE.out.size ?_; intro v5 w5 hown5 hbel5 hg5; rw [← bvs_append, HS.out] at hown5; have HY5 := Lib.hid (own_byt hown5).1; have HB5 := Lib.hid (HBE.out.trans hbel5); clear hown5 hbel5 hg5)
        | (go_at_call 24; refine (full_any _ _ _ (by rw [HSL.out]; decide) HY5.out).mono ?_; rintro e w6 ⟨rfl, hb6⟩; rw [HFU.out]; have HB6 := Lib.hid (HB5.out.trans (hb6.mono HB5.out.size)); clear hb6; unfold secV; have HT6 := Lib.hid ((HB6.out.block w.heap.size (by have := HS1.out; omega)).trans HG1.out))
        | (refine wpList_store_row rfl 28 (.tmp 4) (.tmp 34) rfl w.heap.size zArr (bvs (sealS kind b)).toArray 28 rfl rfl HT6.out (by rw [HSZ.out]; exact size_arr) (by rw [HSZ.out, zArr_size]) (sec_one _) ?_))
      have hld := run_loadVar_row (P := Try.prog) (w6.setRow w.heap.size (bvs (sealS kind b)).toArray) w.heap.size 28 28 (bvs (sealS kind b)).toArray (0, 0) _ (setRow_heap _ _ _ _ _ _ HT6.out) Try.underlying28 (by simp) (by rw [HSZ.out]; exact size_arr)
      refine bodyPost_ret (v := .tuple #[secV (sealS kind b), .bool true]) (results_cell2 Try.results57 rfl rfl hld) rfl ⟨rfl, ?_⟩
      have hbw := HB1.out.trans (HB6.out.mono (by have := HS1.out; omega))
      exact hbw.trans ⟨rfl, rfl, rfl, by rw [setRow_size]; exact Nat.le_refl _, fun k hk => setRow_other _ _ _ _ (by omega)⟩
theorem rmake_any (kind : UInt8) (v : Value) (b : List UInt8) (w : World) (hv : Byt w v b) :
    Calls Try.prog 57 #[.int .u8 (kind.toNat : Int), v] w fun e w' => e = .returned (.tuple #[secV (makeS kind b), .bool (mayB kind b)]) ∧ Below w.heap.size w w' := by
  cases hm : mayB kind b with
  | true => unfold makeS; rw [hm]; exact rmake_yes kind v b w hv hm
  | false => unfold makeS; rw [hm]; exact rmake_no kind v b w hv hm
end Go.Proofs.Ytlcbfpcabalgcaa
