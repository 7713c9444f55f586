/-
  Codec: summaries, plain: what is written is read again; a sector is a summary to the program just if it is one to the reference.
-/
import Derived.Test.YtcpfafmkhegckaaMgKinds11
import Derived.Test.YtcpfafmkhegckaaProg
import Derived.Test.YtcpfafmkhegckaaMgKinds0
import Derived.Deep.RegionHeld3
import Derived.Deep.RegionWith
import Derived.Deep.DeepCutAuto
import Derived.Deep.CutBlock
import Derived.Deep.QuietTactic
import Derived.BigQuiet
import Derived.Test.YtcpfafmkhegckaaMgKinds5
import Derived.Test.YtcpfafmkhegckaaMgKinds7
import Derived.Test.YtcpfafmkhegckaaMgKinds8
import Derived.Test.YtcpfafmkhegckaaMgKinds9
import Derived.Test.YtcpfafmkhegckaaMgKinds1
import Derived.Lib.Bytealg
import Derived.Laws.Externs
import Derived.Laws.IdiomStrings
namespace Go.Proofs.Ytcpfafmkhegckaa
open Go.RowKit
set_option linter.unusedVariables false
set_option linter.unusedSimpArgs false
set_option linter.unnecessarySimpa false
theorem le_part (b : List UInt8) (a k : Nat) (hk : 1 ≤ k ∧ k ≤ 8) (h : a + k ≤ b.length) : wB k (rN b a k) = (b.drop a).take k := by
  have hl : ((b.drop a).take k).length = k := by simp; omega
  have h1 := le_leNat ((b.drop a).take k)
  rw [hl] at h1
  rw [wB_full k _ hk (rN_lt b a k), rN_part b a k hk h]
  exact h1
theorem sumL_len (x : Smy) : (fB (sumL x)).length = 24 + 9 * x.ents.length := by
  unfold sumL
  rw [fB_append, List.length_append, entryAll_len, fB_len]
  rfl
theorem ent_at (A B : List (Nat × Int)) (e : Ent5) (h : fBad (A ++ entryL e ++ B) = false) : rentry (fB (A ++ entryL e ++ B)) (fB A).length = e := by
  obtain ⟨kind, num, ver, idx⟩ := e
  have e0 : A ++ entryL ⟨kind, num, ver, idx⟩ ++ B = A ++ (1, kind) :: ([(2, (num : Int)), (4, (ver : Int)), (2, idx)] ++ B) := by simp [entryL]
  have e1 : A ++ entryL ⟨kind, num, ver, idx⟩ ++ B = (A ++ [(1, kind)]) ++ (2, (num : Int)) :: ([(4, (ver : Int)), (2, idx)] ++ B) := by simp [entryL]
  have e2 : A ++ entryL ⟨kind, num, ver, idx⟩ ++ B = (A ++ [(1, kind), (2, (num : Int))]) ++ (4, (ver : Int)) :: ([(2, idx)] ++ B) := by simp [entryL]
  have e3 : A ++ entryL ⟨kind, num, ver, idx⟩ ++ B = (A ++ [(1, kind), (2, (num : Int)), (4, (ver : Int))]) ++ (2, idx) :: B := by simp [entryL]
  have r0 := rN_fB (h := e0 ▸ h)
  have r1 := rN_fB (h := e1 ▸ h)
  have r2 := rN_fB (h := e2 ▸ h)
  have r3 := rN_fB (h := e3 ▸ h)
  rw [← e0] at r0
  rw [← e1, show (fB (A ++ [(1, kind)])).length = (fB A).length + 1 by rw [fB_append]; simp [fB, wB_len]] at r1
  rw [← e2, show (fB (A ++ [(1, kind), (2, (num : Int))])).length = (fB A).length + 1 + 2 by rw [fB_append]; simp [fB, wB_len]] at r2
  rw [← e3, show (fB (A ++ [(1, kind), (2, (num : Int)), (4, (ver : Int))])).length = (fB A).length + 1 + 2 + 4 by rw [fB_append]; simp [fB, wB_len]] at r3
  dsimp only at r0 r1 r2 r3
  unfold rentry
  rw [r0, r3, show rN (fB (A ++ entryL ⟨kind, num, ver, idx⟩ ++ B)) ((fB A).length + 1) 2 = num by omega, show rN (fB (A ++ entryL ⟨kind, num, ver, idx⟩ ++ B)) ((fB A).length + 1 + 2) 4 = ver by omega]
theorem ents_at (A : List (Nat × Int)) (L : List Ent5) (h : fBad (A ++ entryAll L) = false) : entrys (fB (A ++ entryAll L)) (fB A).length L.length = L := by
  apply List.ext_getElem?
  intro j
  unfold entrys
  rw [List.getElem?_map]
  rcases Nat.lt_or_ge j L.length with hj | hj
  · rw [List.getElem?_range hj, Option.map_some, List.getElem?_eq_getElem hj]
    have e1 : L.take j ++ L[j] :: L.drop (j + 1) = L := by rw [← List.drop_eq_getElem_cons hj, List.take_append_drop]
    have e2 : A ++ entryAll L = (A ++ entryAll (L.take j)) ++ entryL L[j] ++ entryAll (L.drop (j + 1)) := by
      have happ : ∀ X Y, entryAll (X ++ Y) = entryAll X ++ entryAll Y := fun X Y => by simp [entryAll]
      have hcons : ∀ x r, entryAll (x :: r) = entryL x ++ entryAll r := fun x r => by simp [entryAll]
      have e0 : entryAll L = entryAll (L.take j) ++ (entryL L[j] ++ entryAll (L.drop (j + 1))) := by
        rw [← hcons, ← happ, e1]
      rw [e0]
      simp only [List.append_assoc]
    have e3 : (fB (A ++ entryAll (L.take j))).length = (fB A).length + j * 9 := by
      rw [fB_append, List.length_append, entryAll_len, List.length_take]
      omega
    have h4 := ent_at (A ++ entryAll (L.take j)) (entryAll (L.drop (j + 1))) L[j] (e2 ▸ h)
    rw [← e2, e3] at h4
    rw [h4]
  · rw [List.getElem?_eq_none (by simpa using hj), List.getElem?_eq_none (by simpa using hj)]
    rfl
theorem sum_back (x : Smy) (h : fBad (sumL x) = false) : rsum (fB (sumL x)) x.ents.length = x := by
  have h5 := ents_at x.head x.ents h
  rw [show (fB x.head).length = 24 by rw [fB_len]; rfl] at h5
  have r0 := rN_at h 0 0 8 (x.seq : Int) rfl rfl
  have r1 := rN_at h 1 8 8 (x.first : Int) rfl rfl
  have r2 := rN_at h 2 16 1 (flagN x.commit) rfl rfl
  have r3 := rN_at h 4 18 2 x.next rfl rfl
  have r4 := rN_at h 5 20 4 (x.time : Int) rfl rfl
  have e2 : decide (rN (fB (sumL x)) 16 1 = 1) = x.commit := by
    cases hc : x.commit with
    | true => rw [hc] at r2; unfold flagN at r2; rw [if_pos rfl] at r2; exact decide_eq_true (by omega)
    | false => rw [hc] at r2; unfold flagN at r2; rw [if_neg (by decide)] at r2; exact decide_eq_false (by omega)
  obtain ⟨seq, first, commit, next, time, ents⟩ := x
  dsimp only at r0 r1 r2 r3 r4 e2 h5
  unfold rsum
  rw [e2, r3, show rN (fB (sumL ⟨seq, first, commit, next, time, ents⟩)) 0 8 = seq by omega, show rN (fB (sumL ⟨seq, first, commit, next, time, ents⟩)) 8 8 = first by omega, show rN (fB (sumL ⟨seq, first, commit, next, time, ents⟩)) 20 4 = time by omega]
  have h6 : entrys (fB (sumL ⟨seq, first, commit, next, time, ents⟩)) 24 ents.length = ents := h5
  rw [h6]
theorem take_cut (b : List UInt8) (a m n : Nat) : (b.drop a).take m ++ (b.drop (a + m)).take n = (b.drop a).take (m + n) := by
  rw [List.take_add, List.drop_drop]
theorem ent_part (b : List UInt8) (q : Nat) (h : q + 9 ≤ b.length) : fB (entryL (rentry b q)) = (b.drop q).take 9 := by
  unfold entryL rentry
  simp only [fB, Int.toNat_natCast]
  rw [le_part b q 1 (by decide) (by omega), le_part b (q + 1) 2 (by decide) (by omega), le_part b ((q + 1) + 2) 4 (by decide) (by omega), le_part b (((q + 1) + 2) + 4) 2 (by decide) (by omega), List.append_nil, take_cut b ((q + 1) + 2) 4 2, take_cut b (q + 1) 2 6, take_cut b q 1 8]
theorem ents_part (b : List UInt8) (a J : Nat) (h : a + 9 * J ≤ b.length) : fB (entryAll (entrys b a J)) = (b.drop a).take (9 * J) := by
  induction J with
  | zero => simp [entrys, entryAll, fB]
  | succ J ih =>
    rw [entrys_snoc]
    have h1 : ∀ L x, entryAll (L ++ [x]) = entryAll L ++ entryL x := fun L x => by simp [entryAll]
    rw [h1, fB_append, ih (by omega), ent_part b (a + J * 9) (by omega), show a + J * 9 = a + 9 * J by omega, take_cut, show 9 * J + 9 = 9 * (J + 1) by omega]
theorem sum_bytes (b : List UInt8) (J : Nat) (h : b.length = 24 + 9 * J) (hJ : J ≤ 255) : fB (sumL (rsum b J)) = b.take 16 ++ ([flagB (decide (b16 b = 1)), UInt8.ofNat J] ++ b.drop 18) := by
  unfold sumL
  rw [fB_append]
  have hE : fB (entryAll (rsum b J).ents) = b.drop 24 := by
    show fB (entryAll (entrys b 24 J)) = _
    rw [ents_part b 24 J (by omega), List.take_of_length_le (by rw [List.length_drop]; omega)]
  have hc : decide (rN b 16 1 = 1) = decide (b16 b = 1) := by rw [getD_part b 16 (by omega)]; rfl
  have h3 : wB 1 (flagN (rsum b J).commit).toNat = [flagB (decide (b16 b = 1))] := by
    show wB 1 (flagN (decide (rN b 16 1 = 1))).toNat = _
    rw [hc]
    cases decide (b16 b = 1) <;> decide
  have h4 : wB 1 ((rsum b J).ents.length : Int).toNat = [UInt8.ofNat J] := by
    show wB 1 ((entrys b 24 J).length : Int).toNat = _
    rw [entrys_len, Int.toNat_natCast, wB_full 1 _ (by decide) (by show _ < 256; omega), le_one _ hJ]
  rw [hE]
  unfold Smy.head
  simp only [fB]
  rw [h3, h4]
  show wB 8 (rN b 0 8) ++ (wB 8 (rN b 8 8) ++ ([flagB (decide (b16 b = 1))] ++ ([UInt8.ofNat J] ++ (wB 2 (rN b 18 2 : Int).toNat ++ (wB 4 (rN b 20 4) ++ []))))) ++ b.drop 24 = _
  rw [Int.toNat_natCast, le_part b 0 8 (by decide) (by omega), le_part b 8 8 (by decide) (by omega), le_part b 18 2 (by decide) (by omega), le_part b 20 4 (by decide) (by omega)]
  have e1 : (b.drop 0).take 8 ++ (b.drop 8).take 8 = b.take 16 := take_cut b 0 8 8
  have e2 : (b.drop 18).take 2 ++ ((b.drop 20).take 4 ++ b.drop 24) = b.drop 18 := by
    rw [← List.append_assoc, take_cut b 18 2 4, show b.drop 24 = (b.drop 18).drop 6 by rw [List.drop_drop], List.take_append_drop]
  conv => rhs; rw [← e1, ← e2]
  simp only [List.append_assoc, List.append_nil, List.cons_append, List.nil_append]
theorem cut_18 (b : List UInt8) (h : 24 ≤ b.length) : b = b.take 16 ++ ([b.getD 16 0, b.getD 17 0] ++ b.drop 18) := by
  have h1 : 16 < b.length := by omega
  have h2 : 17 < b.length := by omega
  conv => lhs; rw [← List.take_append_drop 16 b, List.drop_eq_getElem_cons h1, List.drop_eq_getElem_cons h2]
  simp [List.getD_eq_getElem?_getD, h1, h2]
theorem sum_same (b : List UInt8) (J : Nat) (h : b.length = 24 + 9 * J) (hJ : J ≤ 255) : fB (sumL (rsum b J)) = b ↔ (b16 b ≤ 1 ∧ b17 b = J) := by
  rw [sum_bytes b J h hJ]
  have hc := cut_18 b (by omega)
  have hb16 : b.getD 16 0 = UInt8.ofNat (b16 b) := by unfold b16; simp
  have hb17 : b.getD 17 0 = UInt8.ofNat (b17 b) := by unfold b17; simp
  have l16 : b16 b < 256 := UInt8.toNat_lt _
  have l17 : b17 b < 256 := UInt8.toNat_lt _
  constructor
  · intro e
    have e2 := e.trans hc
    rw [List.append_cancel_left_eq, List.append_cancel_right_eq] at e2
    injection e2 with q1 q2
    injection q2 with q2
    refine ⟨?_, ?_⟩
    · rw [hb16] at q1
      by_cases h1 : b16 b = 1
      · omega
      · rw [decide_eq_false h1] at q1
        have := congrArg UInt8.toNat q1
        simp [flagB] at this
        omega
    · rw [hb17] at q2
      have := congrArg UInt8.toNat q2
      simp at this
      omega
  · rintro ⟨h1, h2⟩
    conv => rhs; rw [hc]
    rw [hb16, hb17, h2]
    have : b16 b = 0 ∨ b16 b = 1 := by omega
    rcases this with h3 | h3 <;> rw [h3] <;> rfl
theorem open_len (l : List UInt8) : (openL l).length ≤ 120 := by
  unfold openL
  split
  · rename_i h
    unfold openB at h
    simp only [Bool.and_eq_true] at h
    exact ((mayB_iff _ _).1 h.1.2).2
  · simp
theorem open_is (l : List UInt8) (h : openB l = true) (hk : openK l = 3) : makeS 3 (openL l) = l := by
  have h2 := h
  unfold openB at h2
  simp only [Bool.and_eq_true, decide_eq_true_eq] at h2
  unfold openK at hk
  rw [h, if_pos rfl] at hk
  unfold openL makeS
  rw [h, if_pos rfl]
  rw [hk] at h2
  rw [h2.1.2, if_pos rfl]
  exact h2.2
theorem rsum_wr (b : List UInt8) (J : Nat) (hJ : J ≤ 255) (hm : entrysMay (entrys b 24 J) = true) : sumWr (rsum b J) = true := by
  rw [sumWr_eq _ (rsum_ok b J (by omega))]
  unfold entrysMay at hm
  rw [Bool.and_eq_true, decide_eq_true_iff, entrys_len] at hm
  have hn := Nat.lt_of_lt_of_le (rN_lt b 18 2) (show 256 ^ 2 ≤ 65536 by decide)
  rw [Bool.and_eq_true]
  refine ⟨decide_eq_true ⟨by show (entrys b 24 J).length ≤ 8; rw [entrys_len]; exact hm.2, by show (0 : Int) ≤ (rN b 18 2 : Int); omega, by show (rN b 18 2 : Int) ≤ 65535; omega⟩, ?_⟩
  rw [List.all_eq_true]
  intro e he
  obtain ⟨q, _, rfl⟩ := List.mem_map.1 (show e ∈ (List.range J).map fun q => rentry b (24 + q * 9) from he)
  have h1 := List.all_eq_true.1 hm.1 _ he
  refine (ent_good _ (rentry_ok _ _)).2 ⟨by unfold entryMay at h1; simpa using h1, ?_, ?_⟩
  · have := Nat.lt_of_lt_of_le (rN_lt b (24 + q * 9 + 1) 2) (show 256 ^ 2 ≤ 65536 by decide)
    show rN b (24 + q * 9 + 1) 2 ≤ 65535
    omega
  · have := Nat.lt_of_lt_of_le (rN_lt b (24 + q * 9 + 1 + 2 + 4) 2) (show 256 ^ 2 ≤ 65536 by decide)
    show (0 : Int) ≤ (rN b (24 + q * 9 + 1 + 2 + 4) 2 : Int) ∧ (rN b (24 + q * 9 + 1 + 2 + 4) 2 : Int) ≤ 65535
    omega
/-- The program's and the reference's agree on which sectors are summaries. -/
theorem sumOk_ref (l : List UInt8) : sumOk l = sumRefOk l := by
  unfold sumOk sumRefOk sumRdOk
  cases hb : openB l with
  | false => rfl
  | true =>
    by_cases hk : openK l = 3
    rotate_left
    · rw [decide_eq_false hk]; rfl
    · have hbl := open_len l
      have hop := open_is l hb hk
      have hX : ∀ h : sumRdOk l = true, sumRdX l = rsum (openL l) (sumN (openL l)) := fun h => by unfold sumRdX; rw [h, if_pos rfl]
      obtain ⟨b, hbb⟩ : ∃ b, openL l = b := ⟨_, rfl⟩
      rw [hbb] at hbl hop hX ⊢
      by_cases h24 : 24 ≤ b.length ∧ (b.length - 24) % 9 = 0
      rotate_left
      · have h4 : ¬ sumOk4 b := fun h => h24 ⟨h.1, by have := h.2.2; omega⟩
        rw [decide_eq_false h24, decide_eq_false h4]
        simp
      · have hlen : b.length = 24 + 9 * sumN b := by unfold sumN; omega
        obtain ⟨J, hJ⟩ : ∃ J, sumN b = J := ⟨_, rfl⟩
        rw [hJ] at hlen hX ⊢
        have h4 : sumOk4 b ↔ (b16 b ≤ 1 ∧ b17 b = J) := ⟨fun h => ⟨h.2.1, by have := h.2.2; omega⟩, fun h => ⟨h24.1, h.1, by rw [h.2]; exact hlen⟩⟩
        rw [decide_eq_true hk, decide_eq_true h24]
        cases hm : entrysMay (entrys b 24 J) with
        | false =>
          by_cases h5 : sumOk4 b
          · have h6 := (h4.1 h5).2
            unfold entrysMay at hm
            rw [entrys_len] at hm
            rw [h6, hm]; simp
          · rw [decide_eq_false h5]; simp
        | true =>
          have hrd : sumRdOk l = true := by unfold sumRdOk; rw [hb, hk, hbb, hJ, hm, decide_eq_true h24]; rfl
          rw [hX hrd]
          have hw := rsum_wr b J (by omega) hm
          have hml : mayB 3 (fB (sumL (rsum b J))) = true := (mayB_iff _ _).2 ⟨by decide, by rw [sumL_len]; show 24 + 9 * (entrys b 24 J).length ≤ 120; rw [entrys_len]; omega⟩
          have hB : sumB (rsum b J) = true := by unfold sumB; rw [hw, hml]; rfl
          have hS : sumS (rsum b J) = sealS 3 (fB (sumL (rsum b J))) := by unfold sumS wrS; rw [hw, if_pos rfl]; unfold makeS; rw [hml, if_pos rfl]
          have hl : l = sealS 3 b := by
            conv => lhs; rw [← hop]
            unfold makeS
            rw [if_pos ((mayB_iff _ _).2 ⟨by decide, hbl⟩)]
          have hiff : (sumS (rsum b J) = l) ↔ (b16 b ≤ 1 ∧ b17 b = J) := by
            rw [hS, ← sum_same b J hlen (by omega)]
            conv => lhs; rhs; rw [hl]
            rw [seal_inj 3 3 _ _ ((mayB_iff _ _).1 hml).2 hbl]
            simp
          rw [hB]
          by_cases h5 : b16 b ≤ 1 ∧ b17 b = J
          · rw [decide_eq_true (hiff.2 h5), decide_eq_true (h4.2 h5), h5.2]
            unfold entrysMay at hm
            rw [entrys_len] at hm
            rw [hm]; rfl
          · rw [decide_eq_false (fun e => h5 (hiff.1 e)), decide_eq_false (fun e => h5 (h4.1 e))]
            rfl
theorem sumX_ref (l : List UInt8) (h : sumOk l = true) : sumX l = rsum (openL l) (b17 (openL l)) := by
  have h2 := h
  rw [sumOk_ref] at h2
  unfold sumX
  rw [h, if_pos rfl]
  have h3 : sumRdOk l = true := by unfold sumOk at h; rw [Bool.and_eq_true] at h; exact h.1
  unfold sumRdX
  rw [h3, if_pos rfl]
  unfold sumRefOk at h2
  rw [Bool.and_eq_true, Bool.and_eq_true, Bool.and_eq_true] at h2
  have h4 : sumOk4 (openL l) := of_decide_eq_true h2.2.1
  have : sumN (openL l) = b17 (openL l) := by have := h4.2.2; unfold sumN; omega
  rw [this]
/-- What is written is read again. -/
theorem sum_read (x : Smy) (hx : x.Ok) (h : sumB x = true) : sumOk (sumS x) = true ∧ sumX (sumS x) = x := by
  unfold sumB at h
  rw [Bool.and_eq_true] at h
  obtain ⟨hw, hm⟩ := h
  have hS : sumS x = makeS 3 (fB (sumL x)) := by unfold sumS wrS; rw [hw, if_pos rfl]
  obtain ⟨h1, h2, h3⟩ := open_makeS 3 _ hm
  rw [← hS] at h1 h2 h3
  have hw2 := hw
  unfold sumWr at hw2
  rw [Bool.and_eq_true] at hw2
  have hbd : fBad (sumL x) = false := by simpa using hw2.2
  have hback := sum_back x hbd
  have hlen := sumL_len x
  have hN : sumN (fB (sumL x)) = x.ents.length := by unfold sumN; omega
  have hents : entrys (fB (sumL x)) 24 x.ents.length = x.ents := congrArg Smy.ents hback
  have hrd : sumRdOk (sumS x) = true := by
    unfold sumRdOk
    rw [h1, h2, h3, hN, hents, hw2.1, decide_eq_true (show 24 ≤ (fB (sumL x)).length ∧ ((fB (sumL x)).length - 24) % 9 = 0 from ⟨by omega, by omega⟩)]
    rfl
  have hX : sumRdX (sumS x) = x := by unfold sumRdX; rw [hrd, if_pos rfl, h3, hN, hback]
  have hok : sumOk (sumS x) = true := by
    unfold sumOk
    rw [hrd, hX, decide_eq_true (show sumS x = sumS x from rfl)]
    unfold sumB
    rw [hw, hm]; rfl
  refine ⟨hok, ?_⟩
  unfold sumX
  rw [hok, if_pos rfl, hX]
end Go.Proofs.Ytcpfafmkhegckaa
/-
  The contracts of a geometry's counts, the program's and the reference's, for geometries of small numbers.
-/
namespace Go.Proofs.Ytcpfafmkhegckaa
open Go.RowKit
set_option linter.unusedVariables false
set_option linter.unusedSimpArgs false

/-! ### plain -/
def gup (n by_ : Nat) : Nat := (n + by_ - 1) / by_
def gCap (g : Nat) : Nat := 8 * g
def gChunks (i : Nat) : Nat := gup i 10
def gTables (s : Nat) : Nat := gup s 15
def gNeed (g i : Nat) : Nat := gup (gChunks i) (gCap g)
def gMost (s g i : Nat) : Nat := (s - 6 - 2 * gNeed g i) / 2
def gRoom (s g i : Nat) : Nat := gMost s g i * gCap g
theorem gup_le (n b : Nat) (hb : 1 ≤ b) : gup n b ≤ n := by
  unfold gup
  rcases Nat.eq_zero_or_pos n with h | h
  · subst h; rw [Nat.div_eq_of_lt (by omega)]; omega
  · rw [Nat.div_le_iff_le_mul_add_pred (by omega)]
    have : n ≤ b * n := Nat.le_mul_of_pos_left n (by omega)
    omega
/-- A geometry as a value. -/
def geomV (s g i : Int) : Value := .agg #[.int .i64 s, .int .i64 g, .int .i64 i]
/-- The three cells of a geometry that lies in a block. -/
def At3 (b : Nat) (s g i : Int) (w : World) : Prop := w.cell? ⟨b, 0, none⟩ = some (.int .i64 s) ∧ w.cell? ⟨b, 1, none⟩ = some (.int .i64 g) ∧ w.cell? ⟨b, 2, none⟩ = some (.int .i64 i)
theorem At3.below {b : Nat} {s g i : Int} {w w' : World} (h : At3 b s g i w) (hb : Below w.heap.size w w') : At3 b s g i w' :=
  ⟨(hb.cell (World.block_lt_of_cell? w _ h.1)).trans h.1, (hb.cell (World.block_lt_of_cell? w _ h.2.1)).trans h.2.1, (hb.cell (World.block_lt_of_cell? w _ h.2.2)).trans h.2.2⟩

theorem most_val (s n : Nat) (hs : s ≤ 1000) (hn : n ≤ 1000) :
    IntKind.i64.wrap ((if 0 < IntKind.i64.wrap (IntKind.i64.wrap ((s : Int) - 6) - IntKind.i64.wrap (2 * (n : Int))) then IntKind.i64.wrap (IntKind.i64.wrap ((s : Int) - 6) - IntKind.i64.wrap (2 * (n : Int))) else 0).tdiv 2) = (((s - 6 - 2 * n) / 2 : Nat) : Int) := by
  have e1 : IntKind.i64.wrap ((s : Int) - 6) = (s : Int) - 6 := IntWalk.i64_in _ (by omega)
  have e2 : IntKind.i64.wrap (2 * (n : Int)) = 2 * (n : Int) := IntWalk.i64_in _ (by omega)
  have e3 : IntKind.i64.wrap ((s : Int) - 6 - 2 * (n : Int)) = (s : Int) - 6 - 2 * (n : Int) := IntWalk.i64_in _ (by omega)
  rw [e1, e2, e3]
  by_cases h : (0 : Int) < (s : Int) - 6 - 2 * (n : Int)
  · rw [if_pos h, Int.tdiv_eq_ediv_of_nonneg (by omega), IntWalk.i64_in _ (by omega)]
    omega
  · rw [if_neg h]
    have : (s - 6 - 2 * n) / 2 = 0 := by omega
    rw [this]; rfl

/-! ### the program -/
set_option maxHeartbeats 400000 in
theorem gamong_any (n a b : Int) (w : World) :
    Calls Try.prog 56 #[.int .i64 n, .int .i64 a, .int .i64 b] w fun e w' => e = .returned (.bool (decide (a ≤ n) && decide (n ≤ b))) ∧ w = w' := by
  by_cases h1 : a ≤ n
  · have H := Lib.hid (decide_eq_true h1)
    go_enter Try.func56, Try.ntmps56
    go_wp2
    go_ret
    exact ⟨by simp [H.out], rfl⟩
  · have H := Lib.hid (decide_eq_false h1)
    go_enter Try.func56, Try.ntmps56
    go_wp2
    go_ret
    exact ⟨by simp [H.out], rfl⟩
set_option maxHeartbeats 400000 in
theorem up_any (n b : Nat) (w : World) (hn : n ≤ 100000) (hb : 1 ≤ b) (hb2 : b ≤ 100000) :
    Calls Try.prog 146 #[.int .i64 n, .int .i64 b] w fun e w' => e = .returned (.int .i64 (gup n b : Nat)) ∧ w = w' := by
  have h0 : ((b : Int) == 0) = false := by simp; omega
  have h1 : ((n : Int) + b - 1) / b = ((gup n b : Nat) : Int) := by unfold gup; rw [Int.natCast_ediv]; congr 1; omega
  have H1 := Lib.hid h1; clear h1
  go_enter Try.func146, Try.ntmps146
  go_wp2
  go_ret
  exact ⟨by rw [← H1.out]; rfl, rfl⟩
set_option maxHeartbeats 400000 in
theorem cap_any (s i : Int) (g : Nat) (w : World) (hg : g ≤ 1000) : Calls Try.prog 151 #[geomV s g i] w (RetN w (gCap g : Nat)) := by
  unfold geomV
  go_enter Try.func151, Try.ntmps151
  go_wp2
  go_ret
  exact ⟨by simp [gCap]; omega, (Below.refl _ _).alloc (Nat.le_refl _) _⟩
set_option maxHeartbeats 400000 in
theorem chunks_any (s g : Int) (i : Nat) (w : World) (hi : i ≤ 1000) : Calls Try.prog 103 #[geomV s g i] w (RetN w (gChunks i : Nat)) := by
  unfold geomV
  go_enter Try.func103, Try.ntmps103
  go_wp2_with (go_at_call 146; refine (up_any i 10 _ (by omega) (by omega) (by omega)).mono ?_; rintro e w' ⟨rfl, rfl⟩)
  go_ret
  exact ⟨rfl, (Below.refl _ _).alloc (Nat.le_refl _) _⟩
set_option maxHeartbeats 400000 in
theorem tables_any (g i : Int) (s : Nat) (w : World) (hs : s ≤ 1000) : Calls Try.prog 104 #[geomV s g i] w (RetN w (gTables s : Nat)) := by
  unfold geomV
  go_enter Try.func104, Try.ntmps104
  go_wp2_with (go_at_call 146; refine (up_any s 15 _ (by omega) (by omega) (by omega)).mono ?_; rintro e w' ⟨rfl, rfl⟩)
  go_ret
  exact ⟨rfl, (Below.refl _ _).alloc (Nat.le_refl _) _⟩
set_option maxHeartbeats 1000000 in
theorem most_any (s g i : Nat) (w : World) (hs : s ≤ 1000) (hg1 : 1 ≤ g) (hg : g ≤ 1000) (hi : i ≤ 1000) : Calls Try.prog 150 #[geomV s g i] w (RetN w (gMost s g i : Nat)) := by
  have hc1 : 8 ≤ gCap g := by unfold gCap; omega
  have hc2 : gCap g ≤ 8000 := by unfold gCap; omega
  have hch : gChunks i ≤ 1000 := Nat.le_trans (gup_le _ _ (by decide)) hi
  have hnd : gNeed g i ≤ 1000 := Nat.le_trans (gup_le _ _ (by omega)) hch
  have hbox := (Below.refl w.heap.size w).alloc (Nat.le_refl _) (.cells #[.int .i64 s, .int .i64 g, .int .i64 i] 26 (0, 0))
  unfold geomV
  go_enter Try.func150, Try.ntmps150
  go_wp2
  go_region_held3 (fun w' => w'.cell? ⟨w.heap.size, 0, none⟩ = some (.int .i64 s) ∧ w'.cell? ⟨w.heap.size, 1, none⟩ = some (.int .i64 g) ∧ w'.cell? ⟨w.heap.size, 2, none⟩ = some (.int .i64 i)) (first | (go_simp; done) | (exact At3.below ‹_› ‹_›) | trace_state)
    (first
      | (go_at_call 103; refine (chunks_any _ _ i _ hi).mono ?_; rintro e w1 ⟨rfl, hb1⟩)
      | (go_at_call 151; refine (cap_any _ _ g _ hg).mono ?_; rintro e w2 ⟨rfl, hb2⟩)
      | (go_at_call 146; rw [if_neg (show ¬ ((gCap g : Nat) : Int) < 1 by omega)]; refine (up_any (gChunks i) (gCap g) _ (by omega) (by omega) (by omega)).mono ?_; rintro e w3 ⟨rfl, rfl⟩))
  rw [most_val s (gup (gChunks i) (gCap g)) hs hnd, show (((s - 6 - 2 * gup (gChunks i) (gCap g)) / 2 : Nat) : Int) = ((gMost s g i : Nat) : Int) from rfl]
  go_wp2
  all_goals
    go_ret
    exact ⟨rfl, bnext (bnext hbox.drew hb1) hb2⟩

/-- The three cells of a geometry, as a condition. -/
theorem at3_new (w : World) (t : TypeId) (s g i : Int) : At3 w.heap.size s g i (w.alloc (.cells #[.int .i64 s, .int .i64 g, .int .i64 i] t (0, 0))) := by
  have h := heap_alloc_new w (.cells #[.int .i64 s, .int .i64 g, .int .i64 i] t (0, 0))
  exact ⟨by rw [cell_row h]; rfl, by rw [cell_row h]; rfl, by rw [cell_row h]; rfl⟩
set_option maxHeartbeats 1000000 in
theorem room_any (s g i : Nat) (w : World) (hs : s ≤ 1000) (hg1 : 1 ≤ g) (hg : g ≤ 1000) (hi : i ≤ 1000) : Calls Try.prog 114 #[geomV s g i] w (RetN w (gRoom s g i : Nat)) := by
  have hm : gMost s g i ≤ 1000 := by unfold gMost; omega
  have hc2 : gCap g ≤ 8000 := by unfold gCap; omega
  have hp : IntKind.i64.wrap (((gMost s g i : Nat) : Int) * ((gCap g : Nat) : Int)) = ((gRoom s g i : Nat) : Int) := by
    have h1 : gMost s g i * gCap g ≤ 1000 * 8000 := Nat.mul_le_mul hm hc2
    rw [← Int.natCast_mul, IntWalk.i64_in _ (by omega)]; rfl
  have hbox := (Below.refl w.heap.size w).alloc (Nat.le_refl _) (.cells #[.int .i64 s, .int .i64 g, .int .i64 i] 26 (0, 0))
  have HP := Lib.hid hp; clear hp
  unfold geomV
  go_enter Try.func114, Try.ntmps114
  go_wp2
  go_region_held3 (fun w' => w'.cell? ⟨w.heap.size, 0, none⟩ = some (.int .i64 s) ∧ w'.cell? ⟨w.heap.size, 1, none⟩ = some (.int .i64 g) ∧ w'.cell? ⟨w.heap.size, 2, none⟩ = some (.int .i64 i)) (first | (go_simp; done) | (exact At3.below ‹_› ‹_›))
    (first
      | (go_at_call 150; refine (most_any s g i _ hs hg1 hg hi).mono ?_; rintro e w1 ⟨rfl, hb1⟩)
      | (go_at_call 151; refine (cap_any _ _ g _ hg).mono ?_; rintro e w2 ⟨rfl, hb2⟩))
  rw [HP.out]
  go_wp2
  go_ret
  exact ⟨rfl, bnext (bnext hbox.drew hb1) hb2⟩
/-- May it be? (numbers as they came) -/
def gIn (s g i : Int) : Bool := decide (8 ≤ s ∧ s ≤ 200 ∧ 1 ≤ g ∧ g ≤ 32 ∧ 2 ≤ i ∧ i ≤ 200)
def gMay (s g i : Int) : Bool := gIn s g i && decide (8 ≤ gRoom s.toNat g.toNat i.toNat)
set_option maxHeartbeats 1000000 in
theorem check_out (s g i : Int) (w : World) (h : gIn s g i = false) : Calls Try.prog 61 #[geomV s g i] w (RetN w 1) := by
  have hbox := (Below.refl w.heap.size w).alloc (Nat.le_refl _) (.cells #[.int .i64 s, .int .i64 g, .int .i64 i] 26 (0, 0))
  unfold geomV
  unfold gIn at h
  simp only [decide_eq_false_iff_not] at h
  by_cases h1 : 8 ≤ s ∧ s ≤ 200
  · have e1 : (decide ((8 : Int) ≤ s) && decide (s ≤ 200)) = true := by simp [h1]
    by_cases h2 : 1 ≤ g ∧ g ≤ 32
    · have e2 : (decide ((1 : Int) ≤ g) && decide (g ≤ 32)) = true := by simp [h2]
      have h3 : ¬ (2 ≤ i ∧ i ≤ 200) := by omega
      have e3 : (decide ((2 : Int) ≤ i) && decide (i ≤ 200)) = false := by simp; omega
      have E1 := Lib.hid e1
      have E2 := Lib.hid e2
      have E3 := Lib.hid e3
      clear e1 e2 e3 h1 h2 h3 h
      go_enter Try.func61, Try.ntmps61
      go_wp2_with (go_at_call 56; refine (gamong_any _ _ _ _).mono ?_; rintro e w' ⟨rfl, rfl⟩; first | rw [E1.out] | rw [E2.out] | rw [E3.out])
      go_ret
      exact ⟨rfl, hbox⟩
    · have e2 : (decide ((1 : Int) ≤ g) && decide (g ≤ 32)) = false := by simp; omega
      have E1 := Lib.hid e1
      have E2 := Lib.hid e2
      clear e1 e2 h1 h2 h
      go_enter Try.func61, Try.ntmps61
      go_wp2_with (go_at_call 56; refine (gamong_any _ _ _ _).mono ?_; rintro e w' ⟨rfl, rfl⟩; first | rw [E1.out] | rw [E2.out])
      go_ret
      exact ⟨rfl, hbox⟩
  · have e1 : (decide ((8 : Int) ≤ s) && decide (s ≤ 200)) = false := by simp; omega
    have E1 := Lib.hid e1
    clear e1 h1 h
    go_enter Try.func61, Try.ntmps61
    go_wp2_with (go_at_call 56; refine (gamong_any _ _ _ _).mono ?_; rintro e w' ⟨rfl, rfl⟩; rw [E1.out])
    go_ret
    exact ⟨rfl, hbox⟩
set_option maxHeartbeats 1000000 in
theorem check_in (s g i : Nat) (w : World) (h : gIn s g i = true) : Calls Try.prog 61 #[geomV s g i] w (RetN w (if 8 ≤ gRoom s g i then 0 else 1)) := by
  have hbox := (Below.refl w.heap.size w).alloc (Nat.le_refl _) (.cells #[.int .i64 s, .int .i64 g, .int .i64 i] 26 (0, 0))
  unfold geomV
  simp only [gIn, decide_eq_true_eq] at h
  have E1 := Lib.hid (show (decide ((8 : Int) ≤ s) && decide ((s : Int) ≤ 200)) = true by simp; omega)
  have E2 := Lib.hid (show (decide ((1 : Int) ≤ g) && decide ((g : Int) ≤ 32)) = true by simp; omega)
  have E3 := Lib.hid (show (decide ((2 : Int) ≤ i) && decide ((i : Int) ≤ 200)) = true by simp; omega)
  have H := Lib.hid h
  clear h
  by_cases hr : 8 ≤ gRoom s g i
  · go_enter Try.func61, Try.ntmps61
    go_wp2_with (first
      | (go_at_call 56; refine (gamong_any _ _ _ _).mono ?_; rintro e w' ⟨rfl, rfl⟩; first | rw [E1.out] | rw [E2.out] | rw [E3.out])
      | (go_at_call 114; refine (room_any s g i _ (by have := H.out; omega) (by have := H.out; omega) (by have := H.out; omega) (by have := H.out; omega)).mono ?_; rintro e w1 ⟨rfl, hb1⟩))
    go_ret
    exact ⟨rfl, bnext hbox hb1⟩
  · go_enter Try.func61, Try.ntmps61
    go_wp2_with (first
      | (go_at_call 56; refine (gamong_any _ _ _ _).mono ?_; rintro e w' ⟨rfl, rfl⟩; first | rw [E1.out] | rw [E2.out] | rw [E3.out])
      | (go_at_call 114; refine (room_any s g i _ (by have := H.out; omega) (by have := H.out; omega) (by have := H.out; omega) (by have := H.out; omega)).mono ?_; rintro e w1 ⟨rfl, hb1⟩))
    go_ret
    exact ⟨rfl, bnext hbox hb1⟩
end Go.Proofs.Ytcpfafmkhegckaa
/-
  The contracts of a geometry's places: first, Sectors, Region, Summary, Block.
-/
namespace Go.Proofs.Ytcpfafmkhegckaa
open Go.RowKit
set_option linter.unusedVariables false
set_option linter.unusedSimpArgs false

def gHead (s i : Nat) : Nat := 1 + gChunks i + gTables s
def gFirst (s i : Nat) : Nat := 1 + 2 * gHead s i
def gSectors (s g i : Nat) : Nat := gFirst s i + s * g * 9
theorem gHead_le (s i : Nat) (hs : s ≤ 1000) (hi : i ≤ 1000) : gHead s i ≤ 2001 := by
  have h1 : gChunks i ≤ 1000 := Nat.le_trans (gup_le _ _ (by decide)) hi
  have h2 : gTables s ≤ 1000 := Nat.le_trans (gup_le _ _ (by decide)) hs
  unfold gHead; omega
set_option maxHeartbeats 1000000 in
theorem first_any (g : Int) (s i : Nat) (w : World) (hs : s ≤ 1000) (hi : i ≤ 1000) : Calls Try.prog 47 #[geomV s g i] w (RetN w (gFirst s i : Nat)) := by
  have h1 : gChunks i ≤ 1000 := Nat.le_trans (gup_le _ _ (by decide)) hi
  have h2 : gTables s ≤ 1000 := Nat.le_trans (gup_le _ _ (by decide)) hs
  have hv : IntKind.i64.wrap (1 + IntKind.i64.wrap (2 * IntKind.i64.wrap (IntKind.i64.wrap (1 + ((gChunks i : Nat) : Int)) + ((gTables s : Nat) : Int)))) = ((gFirst s i : Nat) : Int) := by
    simp (discharger := omega) only [IntWalk.i64_in]
    unfold gFirst gHead; omega
  have HV := Lib.hid hv; clear hv
  have hbox := (Below.refl w.heap.size w).alloc (Nat.le_refl _) (.cells #[.int .i64 s, .int .i64 g, .int .i64 i] 26 (0, 0))
  unfold geomV
  go_enter Try.func47, Try.ntmps47
  go_wp2
  go_region_held3 (fun w' => w'.cell? ⟨w.heap.size, 0, none⟩ = some (.int .i64 s) ∧ w'.cell? ⟨w.heap.size, 1, none⟩ = some (.int .i64 g) ∧ w'.cell? ⟨w.heap.size, 2, none⟩ = some (.int .i64 i)) (first | (go_simp; done) | (exact At3.below ‹_› ‹_›))
    (first
      | (go_at_call 103; refine (chunks_any _ _ i _ hi).mono ?_; rintro e w1 ⟨rfl, hb1⟩)
      | (go_at_call 104; refine (tables_any _ _ s _ hs).mono ?_; rintro e w2 ⟨rfl, hb2⟩))
  rw [HV.out]
  go_wp2
  go_ret
  exact ⟨rfl, bnext (bnext hbox.drew hb1) hb2⟩
set_option maxHeartbeats 1000000 in
theorem sectors_any (s g i : Nat) (w : World) (hs : s ≤ 1000) (hg : g ≤ 1000) (hi : i ≤ 1000) : Calls Try.prog 6 #[geomV s g i] w (RetN w (gSectors s g i : Nat)) := by
  have h1 := gHead_le s i hs hi
  have h2 : s * g ≤ 1000 * 1000 := Nat.mul_le_mul hs hg
  have hv : IntKind.i64.wrap (((gFirst s i : Nat) : Int) + IntKind.i64.wrap (IntKind.i64.wrap ((s : Int) * (g : Int)) * 9)) = ((gSectors s g i : Nat) : Int) := by
    rw [← Int.natCast_mul]
    have h3 : gFirst s i ≤ 10000 := by unfold gFirst; omega
    simp (discharger := omega) only [IntWalk.i64_in]
    unfold gSectors; omega
  have HV := Lib.hid hv; clear hv
  have hbox := (Below.refl w.heap.size w).alloc (Nat.le_refl _) (.cells #[.int .i64 s, .int .i64 g, .int .i64 i] 26 (0, 0))
  unfold geomV
  go_enter Try.func6, Try.ntmps6
  go_wp2
  go_region_held3 (fun w' => w'.cell? ⟨w.heap.size, 0, none⟩ = some (.int .i64 s) ∧ w'.cell? ⟨w.heap.size, 1, none⟩ = some (.int .i64 g) ∧ w'.cell? ⟨w.heap.size, 2, none⟩ = some (.int .i64 i)) (first | (go_simp; done) | (exact At3.below ‹_› ‹_›))
    (first | (go_at_call 47; refine (first_any _ s i _ hs hi).mono ?_; rintro e w1 ⟨rfl, hb1⟩))
  rw [HV.out]
  go_wp2
  go_ret
  exact ⟨rfl, bnext hbox.drew hb1⟩
/-- The sector of a summary. -/
def gSum (s g i seg group : Nat) : Nat := gFirst s i + (seg * g + group) * 9
set_option maxHeartbeats 1000000 in
theorem summary_in (s g i seg group : Nat) (w : World) (hs : s ≤ 1000) (hg : g ≤ 1000) (hi : i ≤ 1000) (h1 : seg < s) (h2 : group < g) : Calls Try.prog 55 #[geomV s g i, .int .i64 seg, .int .i64 group] w (RetN w (gSum s g i seg group : Nat)) := by
  have h3 := gHead_le s i hs hi
  have h4 : seg * g ≤ 1000 * 1000 := Nat.mul_le_mul (by omega) hg
  have e1 : (decide ((0 : Int) ≤ (seg : Int)) && decide ((seg : Int) ≤ (s : Int) - 1)) = true := by simp; omega
  have e2 : (decide ((0 : Int) ≤ (group : Int)) && decide ((group : Int) ≤ (g : Int) - 1)) = true := by simp; omega
  have E1 := Lib.hid e1
  have E2 := Lib.hid e2
  clear e1 e2
  have hv : IntKind.i64.wrap (((gFirst s i : Nat) : Int) + IntKind.i64.wrap (IntKind.i64.wrap (IntKind.i64.wrap ((seg : Int) * (g : Int)) + (group : Int)) * 9)) = ((gSum s g i seg group : Nat) : Int) := by
    rw [← Int.natCast_mul]
    have h5 : gFirst s i ≤ 10000 := by unfold gFirst; omega
    simp (discharger := omega) only [IntWalk.i64_in]
    unfold gSum; omega
  have HV := Lib.hid hv; clear hv
  have hbox := (Below.refl w.heap.size w).alloc (Nat.le_refl _) (.cells #[.int .i64 s, .int .i64 g, .int .i64 i] 26 (0, 0))
  unfold geomV
  go_enter Try.func55, Try.ntmps55
  go_wp2_with (go_at_call 56; refine (gamong_any _ _ _ _).mono ?_; rintro e w' ⟨rfl, rfl⟩; first | rw [E1.out] | rw [E2.out])
  go_region_held3 (fun w' => w'.cell? ⟨w.heap.size, 0, none⟩ = some (.int .i64 s) ∧ w'.cell? ⟨w.heap.size, 1, none⟩ = some (.int .i64 g) ∧ w'.cell? ⟨w.heap.size, 2, none⟩ = some (.int .i64 i)) (first | (go_simp; done) | (exact At3.below ‹_› ‹_›))
    (first | (go_at_call 47; refine (first_any _ s i _ hs hi).mono ?_; rintro e w1 ⟨rfl, hb1⟩))
  rw [HV.out]
  go_wp2
  go_ret
  exact ⟨rfl, bnext hbox.drew hb1⟩
set_option maxHeartbeats 1000000 in
theorem summary_out (s g : Nat) (i seg group : Int) (w : World) (hs : s ≤ 1000) (hg : g ≤ 1000) (h : ¬ (0 ≤ seg ∧ seg < s ∧ 0 ≤ group ∧ group < g)) : Calls Try.prog 55 #[geomV s g i, .int .i64 seg, .int .i64 group] w (RetN w (-1)) := by
  have hbox := (Below.refl w.heap.size w).alloc (Nat.le_refl _) (.cells #[.int .i64 s, .int .i64 g, .int .i64 i] 26 (0, 0))
  unfold geomV
  by_cases h1 : 0 ≤ seg ∧ seg < s
  · have e1 : (decide ((0 : Int) ≤ seg) && decide (seg ≤ (s : Int) - 1)) = true := by simp; omega
    have e2 : (decide ((0 : Int) ≤ group) && decide (group ≤ (g : Int) - 1)) = false := by simp; omega
    have E1 := Lib.hid e1
    have E2 := Lib.hid e2
    clear e1 e2 h1 h
    go_enter Try.func55, Try.ntmps55
    go_wp2_with (go_at_call 56; refine (gamong_any _ _ _ _).mono ?_; rintro e w' ⟨rfl, rfl⟩; first | rw [E1.out] | rw [E2.out])
    go_ret
    exact ⟨rfl, hbox⟩
  · have e1 : (decide ((0 : Int) ≤ seg) && decide (seg ≤ (s : Int) - 1)) = false := by simp; omega
    have E1 := Lib.hid e1
    clear e1 h1 h
    go_enter Try.func55, Try.ntmps55
    go_wp2_with (go_at_call 56; refine (gamong_any _ _ _ _).mono ?_; rintro e w' ⟨rfl, rfl⟩; rw [E1.out])
    go_ret
    exact ⟨rfl, hbox⟩
set_option maxHeartbeats 1000000 in
theorem block_in (s g i seg group slot : Nat) (w : World) (hs : s ≤ 1000) (hg : g ≤ 1000) (hi : i ≤ 1000) (h1 : seg < s) (h2 : group < g) (h3 : slot < 8) : Calls Try.prog 13 #[geomV s g i, .int .i64 seg, .int .i64 group, .int .i64 slot] w (RetN w ((gSum s g i seg group + 1 + slot : Nat) : Int)) := by
  have h4 : seg * g ≤ 1000 * 1000 := Nat.mul_le_mul (by omega) hg
  have h5 := gHead_le s i hs hi
  have h6 : gSum s g i seg group ≤ 100000000 := by unfold gSum gFirst; omega
  have e1 : (decide ((0 : Int) ≤ (slot : Int)) && decide ((slot : Int) ≤ 7)) = true := by simp; omega
  have E1 := Lib.hid e1
  clear e1 h4 h5
  have hbox := (Below.refl w.heap.size w).alloc (Nat.le_refl _) (.cells #[.int .i64 s, .int .i64 g, .int .i64 i] 26 (0, 0))
  unfold geomV
  go_enter Try.func13, Try.ntmps13
  go_wp2_with (first
    | (go_at_call 56; refine (gamong_any _ _ _ _).mono ?_; rintro e w' ⟨rfl, rfl⟩; rw [E1.out])
    | (go_at_call 55; refine (summary_in s g i seg group _ hs hg hi h1 h2).mono ?_; rintro e w1 ⟨rfl, hb1⟩))
  go_ret
  exact ⟨by simp, bnext hbox hb1⟩
set_option maxHeartbeats 1000000 in
theorem block_out (s g : Nat) (i seg group slot : Int) (w : World) (hs : s ≤ 1000) (hg : g ≤ 1000) (h : ¬ (0 ≤ seg ∧ seg < s ∧ 0 ≤ group ∧ group < g)) : Calls Try.prog 13 #[geomV s g i, .int .i64 seg, .int .i64 group, .int .i64 slot] w (RetN w (-1)) := by
  have hbox := (Below.refl w.heap.size w).alloc (Nat.le_refl _) (.cells #[.int .i64 s, .int .i64 g, .int .i64 i] 26 (0, 0))
  have H := Lib.hid h; clear h
  unfold geomV
  go_enter Try.func13, Try.ntmps13
  go_wp2_with (go_at_call 55; refine (summary_out s g i seg group _ hs hg H.out).mono ?_; rintro e w1 ⟨rfl, hb1⟩)
  go_ret
  exact ⟨rfl, bnext hbox hb1⟩
set_option maxHeartbeats 1000000 in
theorem block_slot (s g i seg group : Nat) (slot : Int) (w : World) (hs : s ≤ 1000) (hg : g ≤ 1000) (hi : i ≤ 1000) (h1 : seg < s) (h2 : group < g) (h3 : slot < 0 ∨ 7 < slot) : Calls Try.prog 13 #[geomV s g i, .int .i64 seg, .int .i64 group, .int .i64 slot] w (RetN w (-1)) := by
  have h4 : seg * g ≤ 1000 * 1000 := Nat.mul_le_mul (by omega) hg
  have e1 : (decide ((0 : Int) ≤ slot) && decide (slot ≤ 7)) = false := by simp; omega
  have E1 := Lib.hid e1
  clear e1 h4 h3
  have hbox := (Below.refl w.heap.size w).alloc (Nat.le_refl _) (.cells #[.int .i64 s, .int .i64 g, .int .i64 i] 26 (0, 0))
  unfold geomV
  go_enter Try.func13, Try.ntmps13
  go_wp2_with (first
    | (go_at_call 56; refine (gamong_any _ _ _ _).mono ?_; rintro e w' ⟨rfl, rfl⟩; rw [E1.out])
    | (go_at_call 55; refine (summary_in s g i seg group _ hs hg hi h1 h2).mono ?_; rintro e w1 ⟨rfl, hb1⟩))
  go_ret
  exact ⟨rfl, bnext hbox hb1⟩
end Go.Proofs.Ytcpfafmkhegckaa
/-
  The superblock: the walks of the program's Super and Read.
-/
namespace Go.Proofs.Ytcpfafmkhegckaa
open Go.RowKit
set_option linter.unusedVariables false
set_option linter.unusedSimpArgs false
theorem OnlyAt.trans {g : Nat} {a b c : World} (h : OnlyAt g a b) (k : OnlyAt g b c) : OnlyAt g a c :=
  ⟨⟨k.1.os.trans h.1.os, k.1.tape.trans h.1.tape, k.1.output.trans h.1.output, Nat.le_trans h.1.size k.1.size, fun j hj hne => (k.1.block j (Nat.lt_of_lt_of_le hj h.1.size) hne).trans (h.1.block j hj hne)⟩, k.2.trans h.2⟩
def supL : List Nat → Nat → List UInt8
  | _, 0 => []
  | l, j + 1 => supL l j ++ le 4 (l.getD j 0)
theorem supL_length (l : List Nat) (j : Nat) : (supL l j).length = 4 * j := by
  induction j with
  | zero => rfl
  | succ j ih => simp [supL, ih]; omega
def supB (s g i : Nat) : List UInt8 := le 4 s ++ le 4 g ++ le 4 i
theorem supB_length (s g i : Nat) : (supB s g i).length = 12 := by simp [supB]
theorem supL_three (s g i : Nat) : supL [s, g, i] 3 = supB s g i := by simp [supL, supB]
theorem wNum_sup (l : List Nat) (j : Nat) (hj : j < 3) (hx : l.getD j 0 < 4294967296) : wNum (supL l j, 0) 4 (l.getD j 0) = (supL l (j + 1), 0) := by
  have : putOk 128 (supL l j).length 4 (l.getD j 0) = true := by
    unfold putOk; rw [supL_length, (fitsB_iff _ _ _).2 (by omega)]; simpa using hx
  unfold wNum
  rw [if_pos rfl, if_pos this]; rfl
theorem zpad_take (l : List UInt8) (n : Nat) (h : l.length = n) : (zpad 128 l).take n = l := by
  unfold zpad; rw [List.take_append_of_le_length (by omega), List.take_of_length_le (by omega)]
theorem heap_keep {w w' : World} {g : Nat} {o : Obj} (h : w.heap[g]? = some o) (hb : Below w.heap.size w w') : w'.heap[g]? = some o := (hb.block g (Array.getElem?_eq_some_iff.1 h).1).trans h
set_option maxHeartbeats 1000000 in
set_option maxRecDepth 10000 in
theorem gsuper_any (s g i : Nat) (w : World) (hs : s < 4294967296) (hg : g < 4294967296) (hi : i < 4294967296) :
    Calls Try.prog 11 #[geomV s g i] w fun e w' => e = .returned (secV (sealS 1 (supB s g i))) ∧ Below w.heap.size w w' := by
  have hz := zero_sec
  have hzw := zero_writer
  unfold geomV
  go_enter Try.func11, Try.ntmps11
  go_upto_region 2 with fail
  have hb1 : Below w.heap.size w (w.alloc (.cells #[.int .i64 (s : Int), .int .i64 (g : Int), .int .i64 (i : Int)] 26 (0, 0))) := (Below.refl _ _).alloc (Nat.le_refl _) _
  have hs1 : (w.alloc (.cells #[.int .i64 (s : Int), .int .i64 (g : Int), .int .i64 (i : Int)] 26 (0, 0))).heap.size = w.heap.size + 1 := by simp
  have ha1 := at3_new w 26 (s : Int) (g : Int) (i : Int)
  have ht2 : ((w.alloc (.cells #[.int .i64 (s : Int), .int .i64 (g : Int), .int .i64 (i : Int)] 26 (0, 0))).alloc (.cells zArr 36 (0, 0))).heap[w.heap.size + 1]? = some (.cells zArr 36 (0, 0)) := by
    have := heap_alloc_last (w.alloc (.cells #[.int .i64 (s : Int), .int .i64 (g : Int), .int .i64 (i : Int)] 26 (0, 0))) (.cells zArr 36 (0, 0)); rw [hs1] at this; exact this
  have ha2 := ha1.below ((Below.refl _ _).alloc (Nat.le_refl _) (.cells zArr 36 (0, 0)))
  have hb2 : Below w.heap.size w ((w.alloc (.cells #[.int .i64 (s : Int), .int .i64 (g : Int), .int .i64 (i : Int)] 26 (0, 0))).alloc (.cells zArr 36 (0, 0))) := hb1.alloc hb1.size _
  have hs2 : ((w.alloc (.cells #[.int .i64 (s : Int), .int .i64 (g : Int), .int .i64 (i : Int)] 26 (0, 0))).alloc (.cells zArr 36 (0, 0))).heap.size = w.heap.size + 2 := by simp
  revert ht2 ha2 hb2 hs2
  clear hb1 hs1 ha1
  generalize (w.alloc (.cells #[.int .i64 (s : Int), .int .i64 (g : Int), .int .i64 (i : Int)] 26 (0, 0))).alloc (.cells zArr 36 (0, 0)) = w2
  intro ht2 ha2 hb2 hs2
  have hW3 : WrAt (w2.alloc (.cells (wrCells ([], 0)) 114 (0, 0))) (w.heap.size + 2) ([], 0) := WrAt.zero _ _ (by
    have := heap_alloc_last w2 (.cells (wrCells ([], 0)) 114 (0, 0)); rw [hs2] at this; exact this)
  have ha3 := ha2.below ((Below.refl _ _).alloc (Nat.le_refl _) (.cells (wrCells ([], 0)) 114 (0, 0)))
  have hb3 : Below w2.heap.size w2 (w2.alloc (.cells (wrCells ([], 0)) 114 (0, 0))) := (Below.refl _ _).alloc (Nat.le_refl _) _
  have hs3 : (w2.alloc (.cells (wrCells ([], 0)) 114 (0, 0))).heap.size = w.heap.size + 3 := by simp [hs2]
  revert hW3 ha3 hb3 hs3
  generalize w2.alloc (.cells (wrCells ([], 0)) 114 (0, 0)) = w3
  intro hW3 ha3 hb3 hs3
  obtain ⟨c30, c31, c32⟩ := ha3
  have hg4 := heap_alloc_last w3 (.cells #[.int .i64 (s : Int), .int .i64 (g : Int), .int .i64 (i : Int)] 3 (0, 0))
  have hb4 : Below w3.heap.size w3 (w3.alloc (.cells #[.int .i64 (s : Int), .int .i64 (g : Int), .int .i64 (i : Int)] 3 (0, 0))) := (Below.refl _ _).alloc (Nat.le_refl _) _
  have HG4 := Lib.hid hg4
  have HB4 := Lib.hid hb4
  have HT2 := Lib.hid ht2
  have HB2 := Lib.hid hb2
  have HB3 := Lib.hid hb3
  have HS2 := Lib.hid hs2
  have HS3 := Lib.hid hs3
  have HW3 := Lib.hid hW3
  have HNS : Hid (s < 4294967296 ∧ g < 4294967296 ∧ i < 4294967296) := ⟨hs, hg, hi⟩
  clear hg4 hb4 ht2 hb2 hb3 hs2 hs3 hW3 ha2 hs hg hi
  go_wp2
  clear c30 c31 c32
  have hW4 : WrAt (w3.alloc (.cells #[.int .i64 (s : Int), .int .i64 (g : Int), .int .i64 (i : Int)] 3 (0, 0))) (w.heap.size + 1 + 1) ([], 0) := ⟨HW3.out.1, heap_keep HW3.out.2 HB4.out⟩
  have hT4 := heap_keep HT2.out (HB3.out.trans (HB4.out.mono HB3.out.size))
  have hBw := bnext HB2.out (HB3.out.trans (HB4.out.mono HB3.out.size))
  have hz4 : (w3.alloc (.cells #[.int .i64 (s : Int), .int .i64 (g : Int), .int .i64 (i : Int)] 3 (0, 0))).heap.size = w.heap.size + 4 := by simp [HS3.out]
  have hgs : w3.heap.size = w.heap.size + 3 := HS3.out
  revert hW4 hT4 hBw hz4 HG4
  clear HB4 HB3 HT2 HB2
  generalize w3.alloc (.cells #[.int .i64 (s : Int), .int .i64 (g : Int), .int .i64 (i : Int)] 3 (0, 0)) = w4
  revert hgs
  clear HS3 HW3
  generalize w3.heap.size = gs
  generalize hgw : w.heap.size + 1 + 1 = gw
  intro hgs HG4 hW4 hT4 hBw hz4
  have HW4 := Lib.hid hW4
  have HT4 := Lib.hid hT4
  have HBW := Lib.hid hBw
  have HZ4 := Lib.hid hz4
  have HGS := Lib.hid hgs
  have HGW := Lib.hid hgw
  clear hgs hW4 hT4 hBw hz4 hgw HS2
  have hgd : ∀ j, j < 3 → [s, g, i].getD j 0 < 4294967296 := fun j hj => by
    obtain ⟨h1, h2, h3⟩ := HNS.out
    match j, hj with
    | 0, _ => exact h1
    | 1, _ => exact h2
    | 2, _ => exact h3
  have HGD := Lib.hid hgd
  clear hgd
  go_loopw [5, 18] (fun x k wr => ∃ j : Nat, j ≤ 3 ∧ k = .int .i64 j ∧ Hid (WrAt wr gw (supL [s, g, i] j, 0)) ∧ Hid (OnlyAt gw w4 wr)) (fun _ k _ => (3 - intOf k).toNat)
  case atStart => exact ⟨0, by omega, by rfl, HW4, Lib.hid (OnlyAt.refl _ _)⟩
  case round =>
    obtain ⟨j, hj, rfl, HW, HO⟩ := hrel
    by_cases hlt : j < 3
    · have hcell : wr.cell? ⟨gs, j, none⟩ = some (.int .i64 (([s, g, i].getD j 0 : Nat) : Int)) := by
        have hk : wr.heap[gs]? = w4.heap[gs]? := HO.out.1.block gs (by rw [HZ4.out, HGS.out]; omega) (by have h1 := HGS.out; have h2 := HGW.out; simp; omega)
        have := cell_row (hk.trans HG4.out) j
        rw [this]
        match j, hlt with
        | 0, _ => rfl
        | 1, _ => rfl
        | 2, _ => rfl
      have hxl := HGD.out j hlt
      have hwn := wNum_sup [s, g, i] j hlt hxl
      obtain ⟨x, hx⟩ : ∃ x, x = [s, g, i].getD j 0 := ⟨_, rfl⟩
      rw [← hx] at hcell hxl hwn
      have HN := Lib.hid (wnum_any gw (supL [s, g, i] j, 0) 4 x wr (by omega) HW.out)
      rw [hwn] at HN
      have hx1 : (x : Int) % 4294967296 = (x : Int) := by omega
      have hx2 : (x : Int) % 18446744073709551616 = (x : Int) := by omega
      clear hwn hx hxl
      go_wp2_with (go_at_call 51; refine HN.out.mono ?_; rintro e wn ⟨rfl, hn1, hn2⟩; have HN1 := Lib.hid hn1; have HN2 := Lib.hid (HO.out.trans hn2); clear hn1 hn2)
      exact ⟨⟨j + 1, by omega, by go_num, HN1, HN2⟩, by simp [intOf]; omega⟩
    · obtain rfl : j = 3 := by omega
      rw [supL_three] at HW
      have HN := Lib.hid (wsector_ok gw (supB s g i) wr HW.out)
      have hz12 := zpad_take (supB s g i) 12 (supB_length s g i)
      have hl : (zpad 128 (supB s g i)).length = 128 := zpad_length _ _ (by rw [supB_length]; decide)
      obtain ⟨l, hld⟩ : ∃ l, l = zpad 128 (supB s g i) := ⟨_, rfl⟩
      rw [← hld] at HN hz12 hl
      have HSEC : Hid ((bvs l).toArray.size = 128) := by unfold Hid; rw [secV_size, hl]
      have HL := Lib.hid hl
      have HZ12 := Lib.hid hz12
      have HBR := Lib.hid (HBW.out.trans (only_below HO.out (by have := HGW.out; omega)))
      have HTR := Lib.hid ((HO.out.1.block (w.heap.size + 1) (by rw [HZ4.out]; omega) (by have := HGW.out; simp; omega)).trans HT4.out)
      have HLT : Hid (w.heap.size + 1 < wr.heap.size) := by unfold Hid; rw [HO.out.2, HZ4.out]; omega
      clear hld hz12 hl HO HW hj hlt
      unfold secV at HN
      go_upto_region 8 with (first
        | (go_at_call 52; refine HN.out.mono ?_; rintro e w5 ⟨rfl, h5⟩; have HB5 := Lib.hid h5; clear h5)
        | (refine wpList_store_row rfl 36 (.tmp 6) (.tmp 29) rfl w5.heap.size zArr (bvs l).toArray 36 rfl rfl (heap_alloc_last _ _) (by rw [HSEC.out]; exact size_sec) (by rw [HSEC.out, zArr_size]) (sec_one _) ?_))
      rw [World.setRow_alloc_new]
      have hS6 := heap_alloc_last w5 (.cells (bvs l).toArray 36 (0, 0))
      have hb6 : Below wr.heap.size wr (w5.alloc (.cells (bvs l).toArray 36 (0, 0))) := HB5.out.alloc HB5.out.size _
      have hT6 := (hb6.block (w.heap.size + 1) HLT.out).trans HTR.out
      have hB6 := HBR.out.trans (hb6.mono (by have := HLT.out; omega))
      have hlt6 : w.heap.size + 1 < (w5.alloc (.cells (bvs l).toArray 36 (0, 0))).heap.size := Nat.lt_of_lt_of_le HLT.out hb6.size
      revert hS6 hT6 hB6 hlt6
      clear hb6
      generalize w5.alloc (.cells (bvs l).toArray 36 (0, 0)) = w6
      intro hS6 hT6 hB6 hlt6
      have hbt := byt_take (c := 128) (RdB.row hS6 (fun i hi => by rw [Nat.zero_add, List.getElem?_toArray, bvs_get _ _ hi])) (by rw [HL.out]; omega) (by decide) 12 (by rw [HL.out]; omega)
      rw [HZ12.out] at hbt
      have hm : mayB 1 (supB s g i) = true := (mayB_iff _ _).2 ⟨by decide, by rw [supB_length]; decide⟩
      have hMK : Calls Try.prog 53 #[.int .u8 1, .slice (some ⟨w5.heap.size, 0, none⟩) 12 128] w6 fun e w' => e = .returned (.tuple #[secV (sealS 1 (supB s g i)), .int .i64 0]) ∧ Below w6.heap.size w6 w' := make_yes 1 _ (supB s g i) w6 hbt hm
      have hsl := sealS_length 1 (supB s g i) (by rw [supB_length]; decide)
      obtain ⟨m, hmd⟩ : ∃ m, m = sealS 1 (supB s g i) := ⟨_, rfl⟩
      rw [← hmd] at hMK hsl
      have HMK := Lib.hid hMK
      have HMS : Hid ((bvs m).toArray.size = 128) := by unfold Hid; rw [secV_size, hsl]
      have HT6 := Lib.hid hT6
      have HB6 := Lib.hid hB6
      have HLT6 := Lib.hid hlt6
      have HMD := Lib.hid hmd
      clear hS6 hT6 hB6 hlt6 hbt hm hMK hsl hmd HBR HTR HLT HN
      unfold secV at HMK
      go_upto_region 9 with (first
        | (go_at_call 53; refine HMK.out.mono ?_; rintro e w7 ⟨rfl, h7⟩; have HB7 := Lib.hid h7; clear h7)
        | (refine wpList_store_row rfl 36 (.tmp 8) (.tmp 34) rfl w7.heap.size zArr (bvs m).toArray 36 rfl rfl (heap_alloc_last _ _) (by rw [HMS.out]; exact size_sec) (by rw [HMS.out, zArr_size]) (sec_one _) ?_))
      rw [World.setRow_alloc_new]
      have hS8 := heap_alloc_last w7 (.cells (bvs m).toArray 36 (0, 0))
      have hb8 : Below w6.heap.size w6 (w7.alloc (.cells (bvs m).toArray 36 (0, 0))) := HB7.out.alloc HB7.out.size _
      have hT8 := (hb8.block (w.heap.size + 1) HLT6.out).trans HT6.out
      have hB8 := HB6.out.trans (hb8.mono (by have := HLT6.out; omega))
      revert hS8 hT8 hB8
      clear hb8
      generalize w7.alloc (.cells (bvs m).toArray 36 (0, 0)) = w8
      intro hS8 hT8 hB8
      have HS8 := Lib.hid hS8
      have HT8 := Lib.hid hT8
      have HB8 := Lib.hid hB8
      clear hS8 hT8 hB8 HMK HB7 HT6 HB6 HLT6
      go_wp2_with (first
        | (refine wpList_load_row rfl 36 (.tmp 8) rfl w7.heap.size rfl _ _ _ _ HS8.out Try.underlying36 rfl (by rw [HMS.out]; exact size_sec) ?_)
        | (refine wpList_store_row rfl 36 (.tmp 2) (.tmp 36) rfl (w.heap.size + 1) zArr (bvs m).toArray 36 rfl rfl HT8.out (by rw [HMS.out]; exact size_sec) (by rw [HMS.out, zArr_size]) (sec_one _) ?_))
      have hld := run_loadVar_row (P := Try.prog) (w8.setRow (w.heap.size + 1) (bvs m).toArray) (w.heap.size + 1) 36 36 (bvs m).toArray (0, 0) _ (setRow_heap _ _ _ _ _ _ HT8.out) Try.underlying36 (by simp) (by rw [HMS.out]; exact size_sec)
      refine bodyPost_ret (v := secV m) (results_cell1 Try.results11 rfl hld) rfl ⟨by rw [HMD.out], ?_⟩
      exact HB8.out.trans ⟨rfl, rfl, rfl, by rw [setRow_size]; exact Nat.le_refl _, fun k hk => setRow_other _ _ _ _ (by omega)⟩
/-! ### Read -/
def gE (s g i : Int) : Int := if gMay s g i then 0 else 1
theorem check_any (s g i : Nat) (w : World) : Calls Try.prog 61 #[geomV s g i] w (RetN w (gE s g i)) := by
  cases h : gIn s g i with
  | false =>
    have e : gE s g i = 1 := by unfold gE gMay; rw [h]; rfl
    rw [e]; exact check_out s g i w h
  | true =>
    have e : gE s g i = (if 8 ≤ gRoom s g i then 0 else 1) := by unfold gE gMay; rw [h]; simp
    rw [e]; exact check_in s g i w h
set_option maxHeartbeats 400000 in
theorem rpart_any (b j : Nat) (v : Value) (l : List UInt8) (w : World) (hj : j < 3) (hl : l.length = 12) (hc : w.cell? ⟨b, 0, none⟩ = some v) (hv : Byt w v l) :
    Calls Try.prog 59 #[.int .i64 j, .pointer (some ⟨b, 0, none⟩)] w fun e w' => e = .returned (.int .i64 (part l (4 * j) 4 : Nat)) ∧ w = w' := by
  have hf : fitsB l.length ((4 * j : Nat) : Int) 4 = true := (fitsB_iff _ _ _).2 (by omega)
  have hN : getN l ((4 * j : Nat) : Int) 4 = part l (4 * j) 4 := by unfold getN; rw [hf]; rfl
  have hE : getE l.length ((4 * j : Nat) : Int) 4 = 0 := by unfold getE; rw [hf]; rfl
  have hg := get_any v l ((4 * j : Nat) : Int) 4 w (by omega) hv
  rw [hN, hE] at hg
  have hp := part_lt l (4 * j) 4
  obtain ⟨x, hx⟩ : ∃ x, x = part l (4 * j) 4 := ⟨_, rfl⟩
  rw [← hx] at hg hp ⊢
  have HG := Lib.hid hg
  have hp2 : x < 4294967296 := by simpa using hp
  have hw1 : wrap64 (4 * (j : Int)) = ((4 * j : Nat) : Int) := by rw [← i64_w, Int.natCast_mul]; exact IntWalk.i64_in _ (by omega)
  have hw2 : wrap64 (x : Int) = (x : Int) := by rw [← i64_w]; exact IntWalk.i64_in _ (by omega)
  clear hf hN hE hg hp hx hv
  go_enter Try.func59, Try.ntmps59
  go_wp2_with (go_at_call 60; refine HG.out.mono ?_; rintro e w1 ⟨rfl, rfl⟩)
  go_ret
  exact ⟨rfl, rfl⟩
end Go.Proofs.Ytcpfafmkhegckaa
/-
  The superblock: the walk of the program's Read.
-/
namespace Go.Proofs.Ytcpfafmkhegckaa
open Go.RowKit
set_option linter.unusedVariables false
set_option linter.unusedSimpArgs false
def rdOk (l : List UInt8) : Bool := openB l && decide (openK l = 1) && decide ((openL l).length = 12)
def rdN (l : List UInt8) (j : Nat) : Nat := part (openL l) (4 * j) 4
def rdB (l : List UInt8) : Bool := rdOk l && gMay (rdN l 0) (rdN l 1) (rdN l 2)
def rdV (l : List UInt8) : Value := if rdB l then geomV (rdN l 0) (rdN l 1) (rdN l 2) else geomV 0 0 0
def rdE (l : List UInt8) : Int := if rdB l then 0 else 21
theorem rd_no {l : List UInt8} (h : rdB l = false) : rdV l = geomV 0 0 0 ∧ rdE l = 21 := by unfold rdV rdE; rw [h]; exact ⟨rfl, rfl⟩
theorem rd_yes {l : List UInt8} (h : rdB l = true) : rdV l = geomV (rdN l 0) (rdN l 1) (rdN l 2) ∧ rdE l = 0 := by unfold rdV rdE; rw [h]; exact ⟨rfl, rfl⟩
theorem size_geom : (Try.prog.info? 26).map (·.size) = some 3 := by kernel_rfl
theorem set_three {w : World} {p : Nat} {x y z : Value} {t : TypeId} {f : Nat × Nat} (h : w.heap[p]? = some (.cells #[x, y, z] t f)) (a b c : Value) :
    ((w.setCell ⟨p, 0, none⟩ a).setCell ⟨p, 1, none⟩ b).setCell ⟨p, 2, none⟩ c = w.setRow p #[a, b, c] := by
  rw [setCell_row h, setRow_setCell h, setRow_setCell h]; rfl
theorem gread_end {w w' : World} {l : List UInt8} {a b c : Value} {n : Int} (hT : w'.heap[w.heap.size + 1]? = some (.cells #[.int .i64 0, .int .i64 0, .int .i64 0] 26 (0, 0)))
    (h1 : Value.agg #[a, b, c] = rdV l) (h2 : n = rdE l) (hb : Below w.heap.size w w') {a' : Act} (hr : a'.tmps.getD 2 undef = .pointer (some ⟨w.heap.size + 1, 0, none⟩)) (h3 : a'.tmps.getD 3 undef = .int .i64 n) (hd : a'.defers = []) :
    bodyPost Try.prog Try.f17 (fun e w' => e = .returned (.tuple #[rdV l, .int .i64 (rdE l)]) ∧ Below w.heap.size w w') .ret a' (w'.setRow (w.heap.size + 1) #[a, b, c]) := by
  have hld := run_loadVar_row (P := Try.prog) (w'.setRow (w.heap.size + 1) #[a, b, c]) (w.heap.size + 1) 26 26 #[a, b, c] (0, 0) _ (setRow_heap _ _ _ _ _ _ hT) Try.underlying26 (by simp) size_geom
  refine bodyPost_ret (v := .tuple #[.agg #[a, b, c], .int .i64 n]) (results_cell2 Try.results17 hr h3 hld) hd ⟨by rw [h1, h2], ?_⟩
  exact hb.trans ⟨rfl, rfl, rfl, by rw [setRow_size]; exact Nat.le_refl _, fun k hk => setRow_other _ _ _ _ (by omega)⟩
set_option maxHeartbeats 1000000 in
set_option maxRecDepth 10000 in
theorem gread_any (l : List UInt8) (w : World) (hl : l.length = 128) :
    Calls Try.prog 17 #[secV l] w fun e w' => e = .returned (.tuple #[rdV l, .int .i64 (rdE l)]) ∧ Below w.heap.size w w' := by
  have HL := Lib.hid hl
  have hmf : ∀ (fn : Fn) (first cap : Array Value) (w : World), (Instr.makeFunc fn first cap).run Try.prog w = .ok (.func fn first cap) w := fun _ _ _ _ => rfl
  have HSZ : Hid ((bvs l).toArray.size = 128) := by unfold Hid; rw [secV_size, hl]
  have hop := fun w' => open_any l w' hl
  obtain ⟨k, hk⟩ : ∃ k, k = openK l := ⟨_, rfl⟩
  obtain ⟨b, hb⟩ : ∃ b, b = openL l := ⟨_, rfl⟩
  obtain ⟨oe, hoe⟩ : ∃ oe, oe = openE l := ⟨_, rfl⟩
  rw [← hk, ← hb, ← hoe] at hop
  have HOP := fun w' => Lib.hid (hop w')
  have HK := Lib.hid hk
  have HBD := Lib.hid hb
  have HOE := Lib.hid hoe
  clear hop hk hb hoe hl
  unfold secV at HOP ⊢
  go_enter Try.func17, Try.ntmps17
  have hg1 := heap_alloc_last w (.cells (bvs l).toArray 36 (0, 0))
  have HG1 := Lib.hid hg1
  clear hg1
  go_upto_region 1 with fail
  have hT2 := heap_alloc_last (w.alloc (.cells (bvs l).toArray 36 (0, 0))) (.cells #[.int .i64 0, .int .i64 0, .int .i64 0] 26 (0, 0))
  have hs1 : (w.alloc (.cells (bvs l).toArray 36 (0, 0))).heap.size = w.heap.size + 1 := by simp
  rw [hs1] at hT2
  have hg2 := heap_keep HG1.out ((Below.refl _ _).alloc (Nat.le_refl _) (.cells #[.int .i64 0, .int .i64 0, .int .i64 0] 26 (0, 0)))
  have hb2 : Below w.heap.size w ((w.alloc (.cells (bvs l).toArray 36 (0, 0))).alloc (.cells #[.int .i64 0, .int .i64 0, .int .i64 0] 26 (0, 0))) := ((Below.refl _ _).alloc (Nat.le_refl _) _).alloc (by simp) _
  revert hT2 hg2 hb2
  clear HG1 hs1
  generalize (w.alloc (.cells (bvs l).toArray 36 (0, 0))).alloc (.cells #[.int .i64 0, .int .i64 0, .int .i64 0] 26 (0, 0)) = w2
  intro hT2 hg2 hb2
  have HT2 := Lib.hid hT2
  have HG2 := Lib.hid hg2
  have HB2 := Lib.hid hb2
  clear hT2 hg2 hb2
  go_upto_region 2 with (first
    | (refine wpList_load_row rfl 36 (.tmp 1) rfl w.heap.size rfl _ _ _ _ HG2.out Try.underlying36 rfl (by rw [HSZ.out]; exact size_sec) ?_)
    | (go_at_call 58; refine (HOP _).out.mono ?_; rintro e w3 ⟨v, rfl, ho3, hb3⟩; obtain ⟨sp, cp, rfl⟩ : ∃ sp cp, v = .slice sp b.length cp := by { rcases (own_byt ho3).1 with ⟨h', A, c, h, _⟩ | ⟨b', o, c, h, _⟩; exact ⟨A, c, by rw [h, h']; rfl⟩; exact ⟨_, c, h⟩ }; have HO3 := Lib.hid (own_byt ho3).1; have HT3 := Lib.hid (heap_keep HT2.out hb3); have HB3 := Lib.hid (bnext HB2.out hb3); clear ho3 hb3))
  have c5 : (w3.alloc (.cells #[.slice sp b.length cp] 118 (0, 0))).cell? ⟨w3.heap.size, 0, none⟩ = some (.slice sp b.length cp) := by rw [cell_row (heap_alloc_last w3 _)]; rfl
  have hb4 : Below w3.heap.size w3 (w3.alloc (.cells #[.slice sp b.length cp] 118 (0, 0))) := (Below.refl _ _).alloc (Nat.le_refl _) _
  have HO4 := Lib.hid (HO3.out.below hb4)
  have HT4 := Lib.hid (heap_keep HT3.out hb4)
  have HB4 := Lib.hid (bnext HB3.out hb4)
  have hg3 : w3.heap.size < (w3.alloc (.cells #[.slice sp b.length cp] 118 (0, 0))).heap.size := by simp
  have HG3 := Lib.hid hg3
  clear hb4 HO3 HT3 HB3 HG2 HT2 HB2 HOP hg3
  revert c5 HO4 HT4 HB4 HG3
  generalize w3.alloc (.cells #[.slice sp b.length cp] 118 (0, 0)) = w4
  generalize w3.heap.size = g5
  intro c5 HO4 HT4 HB4 HG3
  have c20 : w4.cell? ⟨w.heap.size + 1, 0, none⟩ = some (.int .i64 0) := by rw [cell_row HT4.out]; rfl
  have c21 : w4.cell? ⟨w.heap.size + 1, 1, none⟩ = some (.int .i64 0) := by rw [cell_row HT4.out]; rfl
  have c22 : w4.cell? ⟨w.heap.size + 1, 2, none⟩ = some (.int .i64 0) := by rw [cell_row HT4.out]; rfl
  have f20 : w4.frozen? ⟨w.heap.size + 1, 0, none⟩ = false := free_row HT4.out _
  have f21 : w4.frozen? ⟨w.heap.size + 1, 1, none⟩ = false := free_row HT4.out _
  have f22 : w4.frozen? ⟨w.heap.size + 1, 2, none⟩ = false := free_row HT4.out _
  have hbl : b.length ≤ 255 := by
    rw [HBD.out]
    unfold openL
    split
    · unfold bodyOf; rw [List.length_take]; have := (l.getD 3 0).toNat_lt; omega
    · simp
  cases ho : openB l with
  | false =>
    have hbad : rdB l = false := by unfold rdB rdOk; rw [ho]; rfl
    have HBAD := Lib.hid hbad
    obtain rfl : oe = 21 := by rw [HOE.out]; unfold openE; rw [ho]; rfl
    clear hbad
    go_wp2
    rw [set_three HT4.out]
    exact gread_end HT4.out (rd_no HBAD.out).1.symm (rd_no HBAD.out).2.symm HB4.out rfl rfl rfl
  | true =>
    obtain rfl : oe = 0 := by rw [HOE.out]; unfold openE; rw [ho]; rfl
    by_cases hk1 : k = 1
    · subst hk1
      by_cases h12 : b.length = 12
      · have hok : rdOk l = true := by unfold rdOk; rw [ho, ← HK.out, ← HBD.out, decide_eq_true h12]; rfl
        have h12' : (b.length : Int) = 12 := by omega
        have hq0 := rpart_any g5 0 (.slice sp b.length cp) b w4 (by decide) h12 c5 HO4.out
        have hq1 := rpart_any g5 1 (.slice sp b.length cp) b w4 (by decide) h12 c5 HO4.out
        have hq2 := rpart_any g5 2 (.slice sp b.length cp) b w4 (by decide) h12 c5 HO4.out
        obtain ⟨n0, hn0⟩ : ∃ n0, n0 = rdN l 0 := ⟨_, rfl⟩
        obtain ⟨n1, hn1⟩ : ∃ n1, n1 = rdN l 1 := ⟨_, rfl⟩
        obtain ⟨n2, hn2⟩ : ∃ n2, n2 = rdN l 2 := ⟨_, rfl⟩
        have e0 : part b (4 * 0) 4 = n0 := by rw [hn0, HBD.out]; rfl
        have e1 : part b (4 * 1) 4 = n1 := by rw [hn1, HBD.out]; rfl
        have e2 : part b (4 * 2) 4 = n2 := by rw [hn2, HBD.out]; rfl
        rw [e0] at hq0
        rw [e1] at hq1
        rw [e2] at hq2
        have HQ0 : Hid (Calls Try.prog 59 #[.int .i64 0, .pointer (some ⟨g5, 0, none⟩)] w4 fun e w' => e = .returned (.int .i64 (n0 : Int)) ∧ w4 = w') := hq0
        have HQ1 : Hid (Calls Try.prog 59 #[.int .i64 1, .pointer (some ⟨g5, 0, none⟩)] w4 fun e w' => e = .returned (.int .i64 (n1 : Int)) ∧ w4 = w') := hq1
        have HQ2 : Hid (Calls Try.prog 59 #[.int .i64 2, .pointer (some ⟨g5, 0, none⟩)] w4 fun e w' => e = .returned (.int .i64 (n2 : Int)) ∧ w4 = w') := hq2
        have hrb : rdB l = gMay n0 n1 n2 := by unfold rdB; rw [hok, Bool.true_and, hn0, hn1, hn2]
        have HRB := Lib.hid hrb
        have HN : Hid (n0 = rdN l 0 ∧ n1 = rdN l 1 ∧ n2 = rdN l 2) := ⟨hn0, hn1, hn2⟩
        have HCK := fun w' => Lib.hid (check_any n0 n1 n2 w')
        obtain ⟨ge, hge⟩ : ∃ ge, ge = gE n0 n1 n2 := ⟨_, rfl⟩
        rw [← hge] at HCK
        have HGE := Lib.hid hge
        clear hok hq0 hq1 hq2 hn0 hn1 hn2 e0 e1 e2 hrb hge h12
        unfold geomV at HCK
        go_upto_region 6 with (first
          | (have q := d2; clear q; go_at_call 59; refine HQ2.out.mono ?_; rintro e wq ⟨rfl, rfl⟩)
          | (have q := d1; clear q; go_at_call 59; refine HQ1.out.mono ?_; rintro e wq ⟨rfl, rfl⟩; have d2 : True := trivial)
          | (go_at_call 59; refine HQ0.out.mono ?_; rintro e wq ⟨rfl, rfl⟩; have d1 : True := trivial))
        have h8 := heap_alloc_last w4 (.cells #[.int .i64 (n0 : Int), .int .i64 (n1 : Int), .int .i64 (n2 : Int)] 26 (0, 0))
        have hb5 : Below w4.heap.size w4 (w4.alloc (.cells #[.int .i64 (n0 : Int), .int .i64 (n1 : Int), .int .i64 (n2 : Int)] 26 (0, 0))) := (Below.refl _ _).alloc (Nat.le_refl _) _
        have hT5 := heap_keep HT4.out hb5
        have hB5 := bnext HB4.out hb5
        clear c20 c21 c22 f20 f21 f22 hb5 HQ0 HQ1 HQ2
        revert h8 hT5 hB5
        generalize w4.alloc (.cells #[.int .i64 (n0 : Int), .int .i64 (n1 : Int), .int .i64 (n2 : Int)] 26 (0, 0)) = w5
        generalize w4.heap.size = g8
        intro h8 hT5 hB5
        have c80 : w5.cell? ⟨g8, 0, none⟩ = some (.int .i64 (n0 : Int)) := by rw [cell_row h8]; rfl
        have c81 : w5.cell? ⟨g8, 1, none⟩ = some (.int .i64 (n1 : Int)) := by rw [cell_row h8]; rfl
        have c82 : w5.cell? ⟨g8, 2, none⟩ = some (.int .i64 (n2 : Int)) := by rw [cell_row h8]; rfl
        have H8 := Lib.hid h8
        have HT5 := Lib.hid hT5
        have HB5 := Lib.hid hB5
        clear h8 hT5 hB5 c5
        go_upto_if 37 with (go_at_call 61; refine (HCK _).out.mono ?_; rintro e w6 ⟨rfl, hb6⟩; have H86 := heap_keep H8.out hb6; have HT6 := Lib.hid (heap_keep HT5.out hb6); have HB6 := Lib.hid (bnext HB5.out hb6); clear hb6)
        have c90 : w6.cell? ⟨g8, 0, none⟩ = some (.int .i64 (n0 : Int)) := by rw [cell_row H86]; rfl
        have c91 : w6.cell? ⟨g8, 1, none⟩ = some (.int .i64 (n1 : Int)) := by rw [cell_row H86]; rfl
        have c92 : w6.cell? ⟨g8, 2, none⟩ = some (.int .i64 (n2 : Int)) := by rw [cell_row H86]; rfl
        have c20 : w6.cell? ⟨w.heap.size + 1, 0, none⟩ = some (.int .i64 0) := by rw [cell_row HT6.out]; rfl
        have c21 : w6.cell? ⟨w.heap.size + 1, 1, none⟩ = some (.int .i64 0) := by rw [cell_row HT6.out]; rfl
        have c22 : w6.cell? ⟨w.heap.size + 1, 2, none⟩ = some (.int .i64 0) := by rw [cell_row HT6.out]; rfl
        have f20 : w6.frozen? ⟨w.heap.size + 1, 0, none⟩ = false := free_row HT6.out _
        have f21 : w6.frozen? ⟨w.heap.size + 1, 1, none⟩ = false := free_row HT6.out _
        have f22 : w6.frozen? ⟨w.heap.size + 1, 2, none⟩ = false := free_row HT6.out _
        clear c80 c81 c82 H86 H8 HT5 HB5
        cases hgm : gMay n0 n1 n2 with
        | true =>
          obtain rfl : ge = 0 := by rw [HGE.out]; unfold gE; rw [hgm]; rfl
          have hy := rd_yes (l := l) (by rw [HRB.out]; exact hgm)
          have HY := Lib.hid hy
          clear hy
          go_wp2
          rw [set_three HT6.out]
          refine gread_end HT6.out ?_ HY.out.2.symm HB6.out rfl rfl rfl
          rw [HY.out.1, ← HN.out.1, ← HN.out.2.1, ← HN.out.2.2]; rfl
        | false =>
          obtain rfl : ge = 1 := by rw [HGE.out]; unfold gE; rw [hgm]; rfl
          have hy := rd_no (l := l) (by rw [HRB.out]; exact hgm)
          have HY := Lib.hid hy
          clear hy
          go_wp2
          rw [set_three HT6.out]
          exact gread_end HT6.out HY.out.1.symm HY.out.2.symm HB6.out rfl rfl rfl
      · have hbad : rdB l = false := by unfold rdB rdOk; rw [← HBD.out, decide_eq_false h12]; simp
        have HBAD := Lib.hid hbad
        have h12' : ((b.length : Int) != 12) = true := by simp; omega
        clear hbad h12
        go_wp2
        rw [set_three HT4.out]
        exact gread_end HT4.out (rd_no HBAD.out).1.symm (rd_no HBAD.out).2.symm HB4.out rfl rfl rfl
    · have hbad : rdB l = false := by unfold rdB rdOk; rw [← HK.out, decide_eq_false hk1]; simp
      have HBAD := Lib.hid hbad
      have hk1' : ((k.toNat : Int) != 1) = true := by
        simp only [bne_iff_ne, ne_eq]
        intro h; exact hk1 (UInt8.toNat_inj.1 (by have : k.toNat = 1 := by omega
                                                  rw [this]; rfl))
      clear hbad hk1
      go_wp2
      rw [set_three HT4.out]
      exact gread_end HT4.out (rd_no HBAD.out).1.symm (rd_no HBAD.out).2.symm HB4.out rfl rfl rfl
end Go.Proofs.Ytcpfafmkhegckaa
/-
  DrumlinKinds: how many of all kinds of sealed sectors a sector is.
-/
namespace Go.Proofs.Ytcpfafmkhegckaa
open Go.RowKit
set_option linter.unusedVariables false
set_option linter.unusedSimpArgs false
set_option linter.unnecessarySimpa false
theorem rinoV_size (l : List UInt8) : (rinoV l).cells.toArray.size = 15 := by
  unfold rinoV
  split
  · exact rino_len l
  · rfl
theorem rdV_ex (l : List UInt8) : ∃ a b c : Int, rdV l = .agg #[.int .i64 a, .int .i64 b, .int .i64 c] := by
  unfold rdV geomV
  split
  · exact ⟨_, _, _, rfl⟩
  · exact ⟨_, _, _, rfl⟩
/-- Which of all kinds a sector is: inode, summary, slots, uses, header, records, superblock. -/
structure KdIs (l : List UInt8) (b1 b2 b6 : Bool) : Prop where
  k1 : rinoOk l = b1
  k2 : sumOk l = b2
  k3 : slotRdOk l = false
  k4 : useRdOk l = false
  k5 : rhdrOk l = false
  k6 : recordRdOk l = b6
  k7 : rdB l = false
def SomeC (b : Bool) (v : Value) : Prop := True
set_option maxRecDepth 100000 in
set_option maxHeartbeats 8000000 in
theorem readers_any (l : List UInt8) (w : World) (hl : l.length = 128) (b1 b2 b6 : Bool) (n : Int) (hk : KdIs l b1 b2 b6)
    (hp : (b1 = true ∧ b2 = false ∧ b6 = false ∧ n = 1) ∨ (b1 = false ∧ b2 = true ∧ b6 = false ∧ n = 1) ∨ (b1 = false ∧ b2 = false ∧ b6 = true ∧ n = 1) ∨ (b1 = false ∧ b2 = false ∧ b6 = false ∧ n = 0)) :
    Calls Try.prog 19 #[secV l] w (RetN w n) := by
  obtain ⟨k1, k2, k3, k4, k5, k6, k7⟩ := hk
  have HI := fun W => readInode_any l W hl
  have HS := fun W => readSummary_any l W hl
  have HL := fun W => readSlots_any l W hl
  have HU := fun W => readUses_any l W hl
  have HH := fun W => readHeader_any l W hl
  have HR := fun W => readRecords_any l W hl
  have HG := fun W => gread_any l W hl
  unfold rinoE at HI
  rw [k1] at HI
  unfold RlSum at HS
  rw [k2] at HS
  unfold RlSlt at HL
  rw [k3] at HL
  unfold RlUsr at HU
  rw [k4] at HU
  unfold rhdrE at HH
  rw [k5] at HH
  unfold RlRcd at HR
  rw [k6] at HR
  unfold rdE at HG
  rw [k7] at HG
  simp only [Bool.false_eq_true, if_false] at HL HU HH HG
  obtain ⟨C1, hC1⟩ : ∃ C, (rinoV l).cells.toArray = C := ⟨_, rfl⟩
  have hz1 : C1.size = 15 := by rw [← hC1]; exact rinoV_size l
  have ho1 : C1.all (·.oneCell') = true := by rw [← hC1]; exact inoF_one _ _ _ _ _ _ _ _
  obtain ⟨C5, hC5⟩ : ∃ C, (rhdrV l).cells.toArray = C := ⟨_, rfl⟩
  have hz5 : C5.size = 6 := by rw [← hC5]; exact hdr_size _
  have ho5 : C5.all (·.oneCell') = true := by rw [← hC5]; exact hdr_one _
  obtain ⟨g0, g1, g2, hgv⟩ := rdV_ex l
  obtain ⟨S, hS⟩ : ∃ S, sumX l = S := ⟨_, rfl⟩
  obtain ⟨L3, hL3⟩ : ∃ L, slotRdL l = L := ⟨_, rfl⟩
  obtain ⟨L4, hL4⟩ : ∃ L, useRdL l = L := ⟨_, rfl⟩
  obtain ⟨L6, hL6⟩ : ∃ L, recordRdL l = L := ⟨_, rfl⟩
  rw [hC1] at HI
  rw [hS] at HS
  rw [hL3] at HL
  rw [hL4] at HU
  rw [hC5] at HH
  rw [hL6] at HR
  rw [hgv] at HG
  obtain ⟨C, hC⟩ : ∃ C, (bvs l).toArray = C := ⟨_, rfl⟩
  have hCs : C.size = 128 := by rw [← hC, secV_size, hl]
  have hsv : secV l = .agg C := by unfold secV; rw [hC]
  simp only [hsv] at HI HS HL HU HH HR HG ⊢
  have HZ1 := Lib.hid hz1
  have HO1 := Lib.hid ho1
  have HZ5 := Lib.hid hz5
  have HO5 := Lib.hid ho5
  have HCS := Lib.hid hCs
  clear k1 k2 k3 k4 k5 k6 k7 hC1 hz1 ho1 hC5 hz5 ho5 hgv hS hL3 hL4 hL6 hC hCs hsv hl
  unfold RetN
  rcases hp with ⟨rfl, rfl, rfl, rfl⟩ | ⟨rfl, rfl, rfl, rfl⟩ | ⟨rfl, rfl, rfl, rfl⟩ | ⟨rfl, rfl, rfl, rfl⟩
  all_goals
    simp only [Bool.false_eq_true, if_false, if_true] at HI HS HR
    have HI := fun W => Lib.hid (HI W)
    have HS := fun W => Lib.hid (HS W)
    have HL := fun W => Lib.hid (HL W)
    have HU := fun W => Lib.hid (HU W)
    have HH := fun W => Lib.hid (HH W)
    have HR := fun W => Lib.hid (HR W)
    have HG := fun W => Lib.hid (HG W)
    have hb1 := (Below.refl w.heap.size w).alloc (Nat.le_refl _) (.cells C 36)
    have HB1 := Lib.hid hb1
    have HX1 := Lib.hid (heap_alloc_last w (.cells C 36 (0, 0)))
    clear hb1
    go_enter Try.func19, Try.ntmps19
    go_upto_region 1 with fail
    revert HB1 HX1
    generalize w.alloc (.cells C 36) = w1
    intro HB1 HX1
    go_upto_region 3 with (first
      | (refine wpList_load_row rfl 36 (.tmp 1) rfl w.heap.size rfl _ _ _ _ HX1.out Try.underlying36 rfl (by rw [HCS.out]; exact size_sec) ?_)
      | (go_at_call 65; refine (HI _).out.mono ?_; rintro e w2 ⟨rfl, hb2⟩; have HB2 := Lib.hid (bnext HB1.out hb2); have HX2 := Lib.hid (old_heap HX1.out hb2); clear hb2)
      | (refine wpList_store_row rfl 59 (.tmp 4) (.tmp 21) rfl w2.heap.size _ C1 59 rfl rfl (heap_alloc_last _ _) (by rw [HZ1.out]; exact infoInode) (by rw [HZ1.out]; rfl) HO1.out ?_))
    rw [World.setRow_alloc_new]
    have hb3 := (Below.refl w2.heap.size w2).alloc (Nat.le_refl _) (.cells C1 59)
    have HB3 := Lib.hid (bnext HB2.out hb3)
    have HX3 := Lib.hid (old_heap HX2.out hb3)
    clear hb3 HB1 HX1 HB2 HX2 HI
    revert HB3 HX3
    generalize w2.alloc (.cells C1 59) = w3
    generalize w2.heap.size = p2
    intro HB3 HX3
    go_upto_region 6 with (first
      | (refine wpList_load_row rfl 36 (.tmp 1) rfl w.heap.size rfl _ _ _ _ HX3.out Try.underlying36 rfl (by rw [HCS.out]; exact size_sec) ?_)
      | (go_at_call 66; refine (HS _).out.mono ?_; rintro e w4 ⟨v4, rfl, ho4, hb4⟩; obtain ⟨sp4, cp4, rfl⟩ := own_slice1 ho4; unfold Smy.cells sumF; have HB4 := Lib.hid (bnext HB3.out hb4); have HX4 := Lib.hid (old_heap HX3.out hb4); clear hb4 ho4))
    have hb5 := (Below.refl w4.heap.size w4).alloc (Nat.le_refl _) (.cells #[.int .u64 (S.seq : Int), .int .u64 (S.first : Int), .bool S.commit, .int .i64 S.next, .int .u32 (S.time : Int), .slice sp4 S.ents.length cp4] 65)
    have HB5 := Lib.hid (bnext HB4.out hb5)
    have HX5 := Lib.hid (old_heap HX4.out hb5)
    clear hb5 HB3 HX3 HB4 HX4 HS
    revert HB5 HX5
    generalize w4.alloc (.cells #[.int .u64 (S.seq : Int), .int .u64 (S.first : Int), .bool S.commit, .int .i64 S.next, .int .u32 (S.time : Int), .slice sp4 S.ents.length cp4] 65) = w5
    generalize w4.heap.size = p4
    intro HB5 HX5
    go_upto_region 9 with (first
      | (refine wpList_load_row rfl 36 (.tmp 1) rfl w.heap.size rfl _ _ _ _ HX5.out Try.underlying36 rfl (by rw [HCS.out]; exact size_sec) ?_)
      | (go_at_call 67; refine (HL _).out.mono ?_; rintro e w6 ⟨v6, rfl, ho6, hb6⟩; have HB6 := Lib.hid (bnext HB5.out hb6); have HX6 := Lib.hid (old_heap HX5.out hb6); clear hb6 ho6))
    clear HB5 HX5 HL
    go_upto_region 12 with (first
      | (refine wpList_load_row rfl 36 (.tmp 1) rfl w.heap.size rfl _ _ _ _ HX6.out Try.underlying36 rfl (by rw [HCS.out]; exact size_sec) ?_)
      | (go_at_call 43; refine (HU _).out.mono ?_; rintro e w7 ⟨v7, rfl, ho7, hb7⟩; have HB7 := Lib.hid (bnext HB6.out hb7); have HX7 := Lib.hid (old_heap HX6.out hb7); clear hb7 ho7))
    clear HB6 HX6 HU
    go_upto_region 15 with (first
      | (refine wpList_load_row rfl 36 (.tmp 1) rfl w.heap.size rfl _ _ _ _ HX7.out Try.underlying36 rfl (by rw [HCS.out]; exact size_sec) ?_)
      | (go_at_call 68; refine (HH _).out.mono ?_; rintro e w8 ⟨rfl, hb8⟩; have HB8 := Lib.hid (bnext HB7.out hb8); have HX8 := Lib.hid (old_heap HX7.out hb8); clear hb8)
      | (refine wpList_store_row rfl 142 (.tmp 12) (.tmp 57) rfl w8.heap.size _ C5 142 rfl rfl (heap_alloc_last _ _) (by rw [HZ5.out]; exact infoHeader) (by rw [HZ5.out]; rfl) HO5.out ?_))
    rw [World.setRow_alloc_new]
    have hb9 := (Below.refl w8.heap.size w8).alloc (Nat.le_refl _) (.cells C5 142)
    have HB9 := Lib.hid (bnext HB8.out hb9)
    have HX9 := Lib.hid (old_heap HX8.out hb9)
    clear hb9 HB7 HX7 HB8 HX8 HH
    revert HB9 HX9
    generalize w8.alloc (.cells C5 142) = w9
    generalize w8.heap.size = p8
    intro HB9 HX9
    go_upto_region 18 with (first
      | (refine wpList_load_row rfl 36 (.tmp 1) rfl w.heap.size rfl _ _ _ _ HX9.out Try.underlying36 rfl (by rw [HCS.out]; exact size_sec) ?_)
      | (go_at_call 69; refine (HR _).out.mono ?_; rintro e wa ⟨va, rfl, hoa, hba⟩; have HBA := Lib.hid (bnext HB9.out hba); have HXA := Lib.hid (old_heap HX9.out hba); clear hba hoa))
    clear HB9 HX9 HR
    go_upto_region 21 with (first
      | (refine wpList_load_row rfl 36 (.tmp 1) rfl w.heap.size rfl _ _ _ _ HXA.out Try.underlying36 rfl (by rw [HCS.out]; exact size_sec) ?_)
      | (go_at_call 17; refine (HG _).out.mono ?_; rintro e wb ⟨rfl, hbb⟩; have HBB := Lib.hid (bnext HBA.out hbb); have HXB := Lib.hid (old_heap HXA.out hbb); clear hbb))
    have hbc := (Below.refl wb.heap.size wb).alloc (Nat.le_refl _) (.cells #[.int .i64 g0, .int .i64 g1, .int .i64 g2] 26)
    have HBC := Lib.hid (bnext HBB.out hbc)
    clear hbc HBA HXA HBB HXB HG
    revert HBC
    generalize wb.alloc (.cells #[.int .i64 g0, .int .i64 g1, .int .i64 g2] 26) = wc
    generalize wb.heap.size = pb
    intro HBC
    go_wp2
    go_ret
    exact ⟨rfl, HBC.out⟩
end Go.Proofs.Ytcpfafmkhegckaa
/-
  Names of entries: what may be one.
-/
namespace Go.Proofs.Ytcpfafmkhegckaa
open Go.RowKit
set_option linter.unusedVariables false
set_option linter.unusedSimpArgs false
theorem indexByte_neg (l : List UInt8) (c : UInt8) : Lib.indexByte l c = -1 ↔ c ∉ l := by
  induction l with
  | nil => simp [Lib.indexByte]
  | cons b l ih =>
    have hge := Lib.indexByte_ge l c
    unfold Lib.indexByte
    by_cases hb : b = c
    · subst hb; simp
    · have hb' : (b == c) = false := by simpa using hb
      rw [hb']
      simp only [Bool.false_eq_true, if_false]
      have hm : c ∉ b :: l ↔ c ∉ l := by simp [Ne.symm hb]
      rw [hm, ← ih]
      split
      · rename_i h; simp at h; simp [h]
      · rename_i h; simp at h; constructor
        · intro h2; omega
        · intro h2; exact absurd h2 h
/-- The error of a name. -/
def badB (l : List UInt8) : Bool := l.any fun x => x == 0 || x == 47
def goodE (l : List UInt8) : Int := if badB l then 1 else if l.length = 0 then 4 else if 26 < l.length then 9 else 0
theorem badB_iff (l : List UInt8) : badB l = true ↔ (0 ∈ l ∨ 47 ∈ l) := by
  unfold badB
  simp only [List.any_eq_true, Bool.or_eq_true, beq_iff_eq]
  constructor
  · rintro ⟨x, hx, rfl | rfl⟩
    · exact .inl hx
    · exact .inr hx
  · rintro (h | h)
    · exact ⟨_, h, .inl rfl⟩
    · exact ⟨_, h, .inr rfl⟩
set_option maxRecDepth 100000 in
set_option maxHeartbeats 1000000 in
theorem slIndex_any (s : ByteArray) (c : Int) (w : World) :
    Calls Try.prog 134 #[.string s, .int .u8 c] w fun e w' => e = .returned (.int .i64 (Lib.indexByte s.data.toList c.toNat.toUInt8)) ∧ w = w' := by
  go_enter Try.func134, Try.ntmps134
  go_wp2
  rw [run_callFunc_extern Try.func158 (by kernel_rfl) (by kernel_rfl) (by kernel_rfl) (e := Extern.BytealgIndexByte.indexByte) (by kernel_rfl), Lib.run_indexByteString]
  simp only [Result.andThen]
  rw [Oper.upon_value]
  go_wp2
  go_ret
  exact ⟨rfl, rfl⟩
theorem strIndex_any (s : ByteArray) (c : Int) (w : World) :
    Calls Try.prog 78 #[.string s, .int .u8 c] w fun e w' => e = .returned (.int .i64 (Lib.indexByte s.data.toList c.toNat.toUInt8)) ∧ w = w' := by
  go_enter Try.func78, Try.ntmps78
  go_wp2_with (go_at_call 134; refine (slIndex_any _ _ _).mono ?_; rintro e w' ⟨rfl, rfl⟩)
  go_ret
  exact ⟨rfl, rfl⟩
set_option maxHeartbeats 1000000 in
theorem good_any (s : ByteArray) (w : World) : Calls Try.prog 26 #[.string s] w fun e w' => e = .returned (.int .i64 (goodE s.data.toList)) ∧ w = w' := by
  have hg0 := Lib.indexByte_ge s.data.toList 0
  have hg1 := Lib.indexByte_ge s.data.toList 47
  have hn0 := indexByte_neg s.data.toList 0
  have hn1 := indexByte_neg s.data.toList 47
  have hq0 : Hid (∀ w', Calls Try.prog 78 #[.string s, .int .u8 0] w' fun e w'' => e = .returned (.int .i64 (Lib.indexByte s.data.toList 0)) ∧ w' = w'') := fun w' => strIndex_any s 0 w'
  have hq1 : Hid (∀ w', Calls Try.prog 78 #[.string s, .int .u8 47] w' fun e w'' => e = .returned (.int .i64 (Lib.indexByte s.data.toList 47)) ∧ w' = w'') := fun w' => strIndex_any s 47 w'
  obtain ⟨i0, hi0⟩ : ∃ i0, i0 = Lib.indexByte s.data.toList 0 := ⟨_, rfl⟩
  obtain ⟨i1, hi1⟩ : ∃ i1, i1 = Lib.indexByte s.data.toList 47 := ⟨_, rfl⟩
  rw [← hi0] at hq0 hg0 hn0
  rw [← hi1] at hq1 hg1 hn1
  have HB := Lib.hid (badB_iff s.data.toList)
  have HN0 := Lib.hid hn0
  have HN1 := Lib.hid hn1
  clear hi0 hi1 hn0 hn1
  by_cases h0 : 0 ≤ i0
  · have hb : goodE s.data.toList = 1 := by
      unfold goodE; rw [if_pos]; rw [HB.out]; left
      exact Classical.byContradiction fun h => by have := HN0.out.2 h; omega
    rw [hb]
    clear hb
    go_enter Try.func26, Try.ntmps26
    go_wp2_with (go_at_call 78; with_reducible refine (hq0.out _).mono ?_; rintro e w' ⟨rfl, rfl⟩)
    go_ret
    exact ⟨rfl, rfl⟩
  · by_cases h1 : 0 ≤ i1
    · have hb : goodE s.data.toList = 1 := by
        unfold goodE; rw [if_pos]; rw [HB.out]; right
        exact Classical.byContradiction fun h => by have := HN1.out.2 h; omega
      rw [hb]
      clear hb
      go_enter Try.func26, Try.ntmps26
      go_wp2_with (first | (go_at_call 78; with_reducible refine (hq0.out _).mono ?_; rintro e w' ⟨rfl, rfl⟩) | (go_at_call 78; with_reducible refine (hq1.out _).mono ?_; rintro e w' ⟨rfl, rfl⟩))
      go_ret
      exact ⟨rfl, rfl⟩
    · have hb : badB s.data.toList = false := by
        cases h : badB s.data.toList with
        | false => rfl
        | true =>
          rcases HB.out.1 h with h2 | h2
          · exact absurd h2 (HN0.out.1 (by omega))
          · exact absurd h2 (HN1.out.1 (by omega))
      have hsz : s.data.toList.length = s.size := by simp
      have hcut : ∀ K : Int → Prop, (s.toList.isEmpty = true → K 4) → (s.toList.isEmpty = false → (26 : Int) < (s.size : Int) → K 9) → (s.toList.isEmpty = false → ¬ (26 : Int) < (s.size : Int) → K 0) → K (goodE s.data.toList) := fun K a b c => by
        unfold goodE
        rw [hb, if_neg (by simp)]
        by_cases h4 : s.data.toList.length = 0
        · rw [if_pos h4]
          exact a (by rw [ByteArray.toList_eq, List.eq_nil_of_length_eq_zero h4]; rfl)
        · have hne : s.toList.isEmpty = false := by
            rw [ByteArray.toList_eq]
            cases hl : s.data.toList with
            | nil => rw [hl] at h4; exact absurd rfl h4
            | cons _ _ => rfl
          rw [if_neg h4]
          by_cases h9 : 26 < s.data.toList.length
          · rw [if_pos h9]; exact b hne (by omega)
          · rw [if_neg h9]; exact c hne (by omega)
      clear hb hsz
      refine hcut (fun z => Calls Try.prog 26 #[.string s] w fun e w' => e = .returned (.int .i64 z) ∧ w = w') ?_ ?_ ?_ <;> clear hcut <;> intros
      all_goals
        go_enter Try.func26, Try.ntmps26
        go_wp2_with (first | (go_at_call 78; with_reducible refine (hq0.out _).mono ?_; rintro e w' ⟨rfl, rfl⟩) | (go_at_call 78; with_reducible refine (hq1.out _).mono ?_; rintro e w' ⟨rfl, rfl⟩))
        go_ret
        exact ⟨rfl, rfl⟩
end Go.Proofs.Ytcpfafmkhegckaa
/-
  Names of entries: the reference.
-/
namespace Go.Proofs.Ytcpfafmkhegckaa
open Go.RowKit
set_option linter.unusedVariables false
set_option linter.unusedSimpArgs false
theorem badB_snoc (l : List UInt8) (j : Nat) (h : j < l.length) : badB (l.take (j + 1)) = (badB (l.take j) || (l.getD j 0 == 0 || l.getD j 0 == 47)) := by
  unfold badB
  rw [List.take_succ_eq_append_getElem h, List.any_append]
  simp [List.getElem?_eq_getElem h]
theorem badB_take (l : List UInt8) (j : Nat) (h : badB (l.take j) = true) : badB l = true := by
  rw [badB_iff] at h ⊢
  rcases h with h | h
  · exact .inl (List.mem_of_mem_take h)
  · exact .inr (List.mem_of_mem_take h)
end Go.Proofs.Ytcpfafmkhegckaa
/-
  Entries of a directory: may one be; a block of them is written.
-/
namespace Go.Proofs.Ytcpfafmkhegckaa
open Go.RowKit
set_option linter.unusedVariables false
set_option linter.unusedSimpArgs false
def mayE (n : Int) (s : ByteArray) : Bool := if n = 0 then s.size == 0 else decide (0 < n ∧ n ≤ 200 ∧ goodE s.data.toList = 0)
theorem goodE_len {l : List UInt8} (h : goodE l = 0) : l.length ≤ 26 := by
  unfold goodE at h
  split at h
  · cases h
  · split at h
    · cases h
    · split at h
      · cases h
      · omega
theorem may_bounds {n : Int} {s : ByteArray} (h : mayE n s = true) : ∃ k : Nat, n = (k : Int) ∧ k ≤ 200 ∧ s.size ≤ 26 := by
  unfold mayE at h
  split at h
  · rename_i h0; simp only [beq_iff_eq] at h; exact ⟨0, by omega, by omega, by omega⟩
  · simp only [decide_eq_true_eq] at h
    have := goodE_len h.2.2
    have hs : s.data.toList.length = s.size := by simp
    rw [hs] at this
    exact ⟨n.toNat, by omega, by omega, this⟩
theorem empty_iff (s : ByteArray) : s.toList.isEmpty = (s.size == 0) := by
  have hs : s.data.toList.length = s.size := by simp
  rw [ByteArray.toList_eq]
  cases hl : s.data.toList with
  | nil => rw [hl] at hs; simp at hs; rw [← hs]; rfl
  | cons a b => rw [hl] at hs; simp at hs; rw [← hs]; rfl
set_option maxHeartbeats 1000000 in
theorem may_any (n : Int) (s : ByteArray) (w : World) : Calls Try.prog 76 #[.agg #[.int .i64 n, .string s]] w fun e w' => e = .returned (.bool (mayE n s)) ∧ Below w.heap.size w w' := by
  have hbox := (Below.refl w.heap.size w).alloc (Nat.le_refl _) (.cells #[.int .i64 n, .string s] 69 (0, 0))
  have HB := Lib.hid hbox
  clear hbox
  by_cases h0 : n = 0
  · subst h0
    have he : mayE 0 s = s.toList.isEmpty := by rw [empty_iff]; rfl
    have HE := Lib.hid he
    clear he
    go_enter Try.func76, Try.ntmps76
    go_wp2
    go_ret
    exact ⟨by rw [HE.out]; rfl, HB.out⟩
  · have he : mayE n s = decide (0 < n ∧ n ≤ 200 ∧ goodE s.data.toList = 0) := by unfold mayE; rw [if_neg h0]
    have h0' : (n == 0) = false := by simpa using h0
    obtain ⟨ge, hge⟩ : ∃ ge, ge = goodE s.data.toList := ⟨_, rfl⟩
    have HG := fun w' => Lib.hid (good_any s w')
    rw [← hge] at he HG
    by_cases h1 : 0 < n
    · by_cases h2 : n ≤ 200
      · have he2 : mayE n s = (ge == 0) := by rw [he, Bool.eq_iff_iff]; simp [h1, h2]
        have HE := Lib.hid he2
        clear he he2 hge h0
        go_enter Try.func76, Try.ntmps76
        go_wp2_with (go_at_call 26; refine (HG _).out.mono ?_; rintro e w1 ⟨rfl, rfl⟩)
        go_ret
        exact ⟨by rw [HE.out]; rfl, HB.out⟩
      · have he2 : mayE n s = false := by rw [he]; simp [h2]
        have HE := Lib.hid he2
        clear he he2 hge h0
        go_enter Try.func76, Try.ntmps76
        go_wp2
        go_ret
        exact ⟨by rw [HE.out]; rfl, HB.out⟩
    · have he2 : mayE n s = false := by rw [he]; simp [h1]
      have HE := Lib.hid he2
      clear he he2 hge h0
      go_enter Try.func76, Try.ntmps76
      go_wp2
      go_ret
      exact ⟨by rw [HE.out]; rfl, HB.out⟩
/-! ### the bytes of a block -/
def entB (k : Nat) (s : ByteArray) : List UInt8 := le 2 k ++ [UInt8.ofNat s.size] ++ (s.data.toList ++ List.replicate (29 - s.size) 0)
theorem entB_length (k : Nat) (s : ByteArray) (h : s.size ≤ 26) : (entB k s).length = 32 := by
  have hs : s.data.toList.length = s.size := by simp
  simp only [entB, List.length_append, le_length, List.length_cons, List.length_nil, List.length_replicate, hs]; omega
theorem ent_writer (P : List UInt8) (k : Nat) (s : ByteArray) (hP : P.length + 32 ≤ 128) (hk : k ≤ 200) (hs : s.size ≤ 26) :
    wBytes (wNum (wNum (P, 0) 2 k) 1 s.size) 29 s.data.toList = (P ++ entB k s, 0) := by
  have hl : s.data.toList.length = s.size := by simp
  have e2 : ∀ (l : List UInt8) (d x : Nat), 1 ≤ d → d ≤ 8 → l.length + d ≤ 128 → x < 256 ^ d → wNum (l, 0) (d : Int) x = (l ++ le d x, 0) := fun l d x h1 h8 hl hx => by
    have : putOk 128 l.length (d : Int) x = true := by
      unfold putOk; rw [(fitsB_iff _ _ _).2 (by omega)]; simpa using hx
    unfold wNum
    rw [if_pos rfl, if_pos this]; simp
  have a1 := e2 P 2 k (by decide) (by decide) (by omega) (by omega)
  have a2 := e2 (P ++ le 2 k) 1 s.size (by decide) (by decide) (by simp; omega) (by omega)
  rw [show ((2 : Nat) : Int) = 2 from rfl] at a1
  rw [show ((1 : Nat) : Int) = 1 from rfl] at a2
  rw [a1, a2]
  unfold wBytes
  rw [if_pos rfl, if_neg (by simp only [List.length_append, le_length, hl]; omega)]
  have e1 : le 1 s.size = [UInt8.ofNat s.size] := by simp only [le]; rw [Nat.mod_eq_of_lt (by omega)]
  rw [e1, hl]
  simp [entB]
theorem byt_str (w : World) (e : Nat) (s : ByteArray) (fr : Nat × Nat) (hs : s.size ≤ maxLen) : Byt (w.drew.alloc (.cells (bytesRow s (grownCap w s.size 0 e)) e fr)) (.slice (some ⟨w.heap.size, 0, none⟩) s.size (grownCap w s.size 0 e)) s.data.toList := by
  have hl : s.data.toList.length = s.size := by simp
  refine .inr ⟨w.heap.size, 0, _, by rw [hl], by rw [hl]; exact grownCap_ge _ _ _ _, grownCap_le_maxLen _ _ _ _ hs, RdB.row (heap_alloc_last w.drew _) (fun i hi => ?_)⟩
  rw [Nat.zero_add, bytesRow_at s _ i (by simpa using hi)]
  simp only [List.getD_eq_getElem?_getD]
  rw [List.getElem?_eq_getElem hi]
  simp
theorem conv_below (w : World) (o : Obj) : Below w.heap.size w (w.drew.alloc o) := ((Below.refl w.heap.size w).drew).alloc (Nat.le_refl _) o
theorem byt_str' (w : World) (e : Nat) (s : ByteArray) (fr : Nat × Nat) (hs : s.size ≤ maxLen) : Byt (w.alloc (.cells (bytesRow s (grownCap w s.size 0 e)) e fr)).drew (.slice (some ⟨w.heap.size, 0, none⟩) s.size (grownCap w s.size 0 e)) s.data.toList := byt_str w e s fr hs
theorem conv_below' (w : World) (o : Obj) : Below w.heap.size w (w.alloc o).drew := conv_below w o
theorem WrAt.below {w w' : World} {g : Nat} {s : WSt} (h : WrAt w g s) (hb : Below w.heap.size w w') : WrAt w' g s := ⟨h.1, (hb.block g (Array.getElem?_eq_some_iff.1 h.2).1).trans h.2⟩
/-! ### Write -/
abbrev Ent := Int × ByteArray
def entOk (e : Ent) : Bool := mayE e.1 e.2
def entBs (e : Ent) : List UInt8 := entB e.1.toNat e.2
def entsB : List Ent → Nat → List UInt8
  | _, 0 => []
  | l, j + 1 => entsB l j ++ entBs (l.getD j (0, .empty))
theorem entsB_length (l : List Ent) (h : ∀ j, j < 4 → entOk (l.getD j (0, .empty)) = true) (j : Nat) (hj : j ≤ 4) : (entsB l j).length = 32 * j := by
  induction j with
  | zero => rfl
  | succ j ih =>
    obtain ⟨k, _, _, h26⟩ := may_bounds (h j (by omega))
    simp only [entsB, List.length_append, ih (by omega), entBs, entB_length _ _ h26]; omega
end Go.Proofs.Ytcpfafmkhegckaa
