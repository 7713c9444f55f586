/-
  Codec: summaries, plain: what is written is read again; a sector is a summary to the program just if it is one to the reference.
-/
import Derived.Test.YtlcbfpcabalgcaaCodSb
import Derived.Test.YtlcbfpcabalgcaaCodP
namespace Go.Proofs.Ytlcbfpcabalgcaa
open Go.RowKit
set_option linter.unusedVariables false
set_option linter.unusedSimpArgs false
set_option linter.unnecessarySimpa false
theorem le_part (b : List UInt8) (a k : Nat) (hk : 1 ≤ k ∧ k ≤ 8) (h : a + k ≤ b.length) : wB k (rN b a k) = (b.drop a).take k := by
  have hl : ((b.drop a).take k).length = k := by simp; omega
  have h1 := le_leNat ((b.drop a).take k)
  rw [hl] at h1
  rw [wB_full k _ hk (rN_lt b a k), rN_part b a k hk h]
  exact h1
theorem sumL_len (x : Smy) : (fB (sumL x)).length = 24 + 9 * x.ents.length := by
  unfold sumL
  rw [fB_append, List.length_append, entryAll_len, fB_len]
  rfl
theorem ent_at (A B : List (Nat × Int)) (e : Ent5) (h : fBad (A ++ entryL e ++ B) = false) : rentry (fB (A ++ entryL e ++ B)) (fB A).length = e := by
  obtain ⟨kind, num, ver, idx⟩ := e
  have e0 : A ++ entryL ⟨kind, num, ver, idx⟩ ++ B = A ++ (1, kind) :: ([(2, (num : Int)), (4, (ver : Int)), (2, idx)] ++ B) := by simp [entryL]
  have e1 : A ++ entryL ⟨kind, num, ver, idx⟩ ++ B = (A ++ [(1, kind)]) ++ (2, (num : Int)) :: ([(4, (ver : Int)), (2, idx)] ++ B) := by simp [entryL]
  have e2 : A ++ entryL ⟨kind, num, ver, idx⟩ ++ B = (A ++ [(1, kind), (2, (num : Int))]) ++ (4, (ver : Int)) :: ([(2, idx)] ++ B) := by simp [entryL]
  have e3 : A ++ entryL ⟨kind, num, ver, idx⟩ ++ B = (A ++ [(1, kind), (2, (num : Int)), (4, (ver : Int))]) ++ (2, idx) :: B := by simp [entryL]
  have r0 := rN_fB (h := e0 ▸ h)
  have r1 := rN_fB (h := e1 ▸ h)
  have r2 := rN_fB (h := e2 ▸ h)
  have r3 := rN_fB (h := e3 ▸ h)
  rw [← e0] at r0
  rw [← e1, show (fB (A ++ [(1, kind)])).length = (fB A).length + 1 by rw [fB_append]; simp [fB, wB_len]] at r1
  rw [← e2, show (fB (A ++ [(1, kind), (2, (num : Int))])).length = (fB A).length + 1 + 2 by rw [fB_append]; simp [fB, wB_len]] at r2
  rw [← e3, show (fB (A ++ [(1, kind), (2, (num : Int)), (4, (ver : Int))])).length = (fB A).length + 1 + 2 + 4 by rw [fB_append]; simp [fB, wB_len]] at r3
  dsimp only at r0 r1 r2 r3
  unfold rentry
  rw [r0, r3, show rN (fB (A ++ entryL ⟨kind, num, ver, idx⟩ ++ B)) ((fB A).length + 1) 2 = num by omega, show rN (fB (A ++ entryL ⟨kind, num, ver, idx⟩ ++ B)) ((fB A).length + 1 + 2) 4 = ver by omega]
theorem ents_at (A : List (Nat × Int)) (L : List Ent5) (h : fBad (A ++ entryAll L) = false) : entrys (fB (A ++ entryAll L)) (fB A).length L.length = L := by
  apply List.ext_getElem?
  intro j
  unfold entrys
  rw [List.getElem?_map]
  rcases Nat.lt_or_ge j L.length with hj | hj
  · rw [List.getElem?_range hj, Option.map_some, List.getElem?_eq_getElem hj]
    have e1 : L.take j ++ L[j] :: L.drop (j + 1) = L := by rw [← List.drop_eq_getElem_cons hj, List.take_append_drop]
    have e2 : A ++ entryAll L = (A ++ entryAll (L.take j)) ++ entryL L[j] ++ entryAll (L.drop (j + 1)) := by
      have happ : ∀ X Y, entryAll (X ++ Y) = entryAll X ++ entryAll Y := fun X Y => by simp [entryAll]
      have hcons : ∀ x r, entryAll (x :: r) = entryL x ++ entryAll r := fun x r => by simp [entryAll]
      have e0 : entryAll L = entryAll (L.take j) ++ (entryL L[j] ++ entryAll (L.drop (j + 1))) := by
        rw [← hcons, ← happ, e1]
      rw [e0]
      simp only [List.append_assoc]
    have e3 : (fB (A ++ entryAll (L.take j))).length = (fB A).length + j * 9 := by
      rw [fB_append, List.length_append, entryAll_len, List.length_take]
      omega
    have h4 := ent_at (A ++ entryAll (L.take j)) (entryAll (L.drop (j + 1))) L[j] (e2 ▸ h)
    rw [← e2, e3] at h4
    rw [h4]
  · rw [List.getElem?_eq_none (by simpa using hj), List.getElem?_eq_none (by simpa using hj)]
    rfl
theorem sum_back (x : Smy) (h : fBad (sumL x) = false) : rsum (fB (sumL x)) x.ents.length = x := by
  have h5 := ents_at x.head x.ents h
  rw [show (fB x.head).length = 24 by rw [fB_len]; rfl] at h5
  have r0 := rN_at h 0 0 8 (x.seq : Int) rfl rfl
  have r1 := rN_at h 1 8 8 (x.first : Int) rfl rfl
  have r2 := rN_at h 2 16 1 (flagN x.commit) rfl rfl
  have r3 := rN_at h 4 18 2 x.next rfl rfl
  have r4 := rN_at h 5 20 4 (x.time : Int) rfl rfl
  have e2 : decide (rN (fB (sumL x)) 16 1 = 1) = x.commit := by
    cases hc : x.commit with
    | true => rw [hc] at r2; unfold flagN at r2; rw [if_pos rfl] at r2; exact decide_eq_true (by omega)
    | false => rw [hc] at r2; unfold flagN at r2; rw [if_neg (by decide)] at r2; exact decide_eq_false (by omega)
  obtain ⟨seq, first, commit, next, time, ents⟩ := x
  dsimp only at r0 r1 r2 r3 r4 e2 h5
  unfold rsum
  rw [e2, r3, show rN (fB (sumL ⟨seq, first, commit, next, time, ents⟩)) 0 8 = seq by omega, show rN (fB (sumL ⟨seq, first, commit, next, time, ents⟩)) 8 8 = first by omega, show rN (fB (sumL ⟨seq, first, commit, next, time, ents⟩)) 20 4 = time by omega]
  have h6 : entrys (fB (sumL ⟨seq, first, commit, next, time, ents⟩)) 24 ents.length = ents := h5
  rw [h6]
theorem take_cut (b : List UInt8) (a m n : Nat) : (b.drop a).take m ++ (b.drop (a + m)).take n = (b.drop a).take (m + n) := by
  rw [List.take_add, List.drop_drop]
theorem ent_part (b : List UInt8) (q : Nat) (h : q + 9 ≤ b.length) : fB (entryL (rentry b q)) = (b.drop q).take 9 := by
  unfold entryL rentry
  simp only [fB, Int.toNat_natCast]
  rw [le_part b q 1 (by decide) (by omega), le_part b (q + 1) 2 (by decide) (by omega), le_part b ((q + 1) + 2) 4 (by decide) (by omega), le_part b (((q + 1) + 2) + 4) 2 (by decide) (by omega), List.append_nil, take_cut b ((q + 1) + 2) 4 2, take_cut b (q + 1) 2 6, take_cut b q 1 8]
theorem ents_part (b : List UInt8) (a J : Nat) (h : a + 9 * J ≤ b.length) : fB (entryAll (entrys b a J)) = (b.drop a).take (9 * J) := by
  induction J with
  | zero => simp [entrys, entryAll, fB]
  | succ J ih =>
    rw [entrys_snoc]
    have h1 : ∀ L x, entryAll (L ++ [x]) = entryAll L ++ entryL x := fun L x => by simp [entryAll]
    rw [h1, fB_append, ih (by omega), ent_part b (a + J * 9) (by omega), show a + J * 9 = a + 9 * J by omega, take_cut, show 9 * J + 9 = 9 * (J + 1) by omega]
theorem sum_bytes (b : List UInt8) (J : Nat) (h : b.length = 24 + 9 * J) (hJ : J ≤ 255) : fB (sumL (rsum b J)) = b.take 16 ++ ([flagB (decide (b16 b = 1)), UInt8.ofNat J] ++ b.drop 18) := by
  unfold sumL
  rw [fB_append]
  have hE : fB (entryAll (rsum b J).ents) = b.drop 24 := by
    show fB (entryAll (entrys b 24 J)) = _
    rw [ents_part b 24 J (by omega), List.take_of_length_le (by rw [List.length_drop]; omega)]
  have hc : decide (rN b 16 1 = 1) = decide (b16 b = 1) := by rw [getD_part b 16 (by omega)]; rfl
  have h3 : wB 1 (flagN (rsum b J).commit).toNat = [flagB (decide (b16 b = 1))] := by
    show wB 1 (flagN (decide (rN b 16 1 = 1))).toNat = _
    rw [hc]
    cases decide (b16 b = 1) <;> decide
  have h4 : wB 1 ((rsum b J).ents.length : Int).toNat = [UInt8.ofNat J] := by
    show wB 1 ((entrys b 24 J).length : Int).toNat = _
    rw [entrys_len, Int.toNat_natCast, wB_full 1 _ (by decide) (by show _ < 256; omega), le_one _ hJ]
  rw [hE]
  unfold Smy.head
  simp only [fB]
  rw [h3, h4]
  show wB 8 (rN b 0 8) ++ (wB 8 (rN b 8 8) ++ ([flagB (decide (b16 b = 1))] ++ ([UInt8.ofNat J] ++ (wB 2 (rN b 18 2 : Int).toNat ++ (wB 4 (rN b 20 4) ++ []))))) ++ b.drop 24 = _
  rw [Int.toNat_natCast, le_part b 0 8 (by decide) (by omega), le_part b 8 8 (by decide) (by omega), le_part b 18 2 (by decide) (by omega), le_part b 20 4 (by decide) (by omega)]
  have e1 : (b.drop 0).take 8 ++ (b.drop 8).take 8 = b.take 16 := take_cut b 0 8 8
  have e2 : (b.drop 18).take 2 ++ ((b.drop 20).take 4 ++ b.drop 24) = b.drop 18 := by
    rw [← List.append_assoc, take_cut b 18 2 4, show b.drop 24 = (b.drop 18).drop 6 by rw [List.drop_drop], List.take_append_drop]
  conv => rhs; rw [← e1, ← e2]
  simp only [List.append_assoc, List.append_nil, List.cons_append, List.nil_append]
theorem cut_18 (b : List UInt8) (h : 24 ≤ b.length) : b = b.take 16 ++ ([b.getD 16 0, b.getD 17 0] ++ b.drop 18) := by
  have h1 : 16 < b.length := by omega
  have h2 : 17 < b.length := by omega
  conv => lhs; rw [← List.take_append_drop 16 b, List.drop_eq_getElem_cons h1, List.drop_eq_getElem_cons h2]
  simp [List.getD_eq_getElem?_getD, h1, h2]
theorem sum_same (b : List UInt8) (J : Nat) (h : b.length = 24 + 9 * J) (hJ : J ≤ 255) : fB (sumL (rsum b J)) = b ↔ (b16 b ≤ 1 ∧ b17 b = J) := by
  rw [sum_bytes b J h hJ]
  have hc := cut_18 b (by omega)
  have hb16 : b.getD 16 0 = UInt8.ofNat (b16 b) := by unfold b16; simp
  have hb17 : b.getD 17 0 = UInt8.ofNat (b17 b) := by unfold b17; simp
  have l16 : b16 b < 256 := UInt8.toNat_lt _
  have l17 : b17 b < 256 := UInt8.toNat_lt _
  constructor
  · intro e
    have e2 := e.trans hc
    rw [List.append_cancel_left_eq, List.append_cancel_right_eq] at e2
    injection e2 with q1 q2
    injection q2 with q2
    refine ⟨?_, ?_⟩
    · rw [hb16] at q1
      by_cases h1 : b16 b = 1
      · omega
      · rw [decide_eq_false h1] at q1
        have := congrArg UInt8.toNat q1
        simp [flagB] at this
        omega
    · rw [hb17] at q2
      have := congrArg UInt8.toNat q2
      simp at this
      omega
  · rintro ⟨h1, h2⟩
    conv => rhs; rw [hc]
    rw [hb16, hb17, h2]
    have : b16 b = 0 ∨ b16 b = 1 := by omega
    rcases this with h3 | h3 <;> rw [h3] <;> rfl
theorem open_len (l : List UInt8) : (openL l).length ≤ 120 := by
  unfold openL
  split
  · rename_i h
    unfold openB at h
    simp only [Bool.and_eq_true] at h
    exact ((mayB_iff _ _).1 h.1.2).2
  · simp
theorem open_is (l : List UInt8) (h : openB l = true) (hk : openK l = 3) : makeS 3 (openL l) = l := by
  have h2 := h
  unfold openB at h2
  simp only [Bool.and_eq_true, decide_eq_true_eq] at h2
  unfold openK at hk
  rw [h, if_pos rfl] at hk
  unfold openL makeS
  rw [h, if_pos rfl]
  rw [hk] at h2
  rw [h2.1.2, if_pos rfl]
  exact h2.2
theorem rsum_wr (b : List UInt8) (J : Nat) (hJ : J ≤ 255) (hm : entrysMay (entrys b 24 J) = true) : sumWr (rsum b J) = true := by
  rw [sumWr_eq _ (rsum_ok b J (by omega))]
  unfold entrysMay at hm
  rw [Bool.and_eq_true, decide_eq_true_iff, entrys_len] at hm
  have hn := Nat.lt_of_lt_of_le (rN_lt b 18 2) (show 256 ^ 2 ≤ 65536 by decide)
  rw [Bool.and_eq_true]
  refine ⟨decide_eq_true ⟨by show (entrys b 24 J).length ≤ 8; rw [entrys_len]; exact hm.2, by show (0 : Int) ≤ (rN b 18 2 : Int); omega, by show (rN b 18 2 : Int) ≤ 65535; omega⟩, ?_⟩
  rw [List.all_eq_true]
  intro e he
  obtain ⟨q, _, rfl⟩ := List.mem_map.1 (show e ∈ (List.range J).map fun q => rentry b (24 + q * 9) from he)
  have h1 := List.all_eq_true.1 hm.1 _ he
  refine (ent_good _ (rentry_ok _ _)).2 ⟨by unfold entryMay at h1; simpa using h1, ?_, ?_⟩
  · have := Nat.lt_of_lt_of_le (rN_lt b (24 + q * 9 + 1) 2) (show 256 ^ 2 ≤ 65536 by decide)
    show rN b (24 + q * 9 + 1) 2 ≤ 65535
    omega
  · have := Nat.lt_of_lt_of_le (rN_lt b (24 + q * 9 + 1 + 2 + 4) 2) (show 256 ^ 2 ≤ 65536 by decide)
    show (0 : Int) ≤ (rN b (24 + q * 9 + 1 + 2 + 4) 2 : Int) ∧ (rN b (24 + q * 9 + 1 + 2 + 4) 2 : Int) ≤ 65535
    omega
/-- The program's and the reference's agree on which sectors are summaries. -/
theorem sumOk_ref (l : List UInt8) : sumOk l = sumRefOk l := by
  unfold sumOk sumRefOk sumRdOk
  cases hb : openB l with
  | false => rfl
  | true =>
    by_cases hk : openK l = 3
    rotate_left
    · rw [decide_eq_false hk]; rfl
    · have hbl := open_len l
      have hop := open_is l hb hk
      have hX : ∀ h : sumRdOk l = true, sumRdX l = rsum (openL l) (sumN (openL l)) := fun h => by unfold sumRdX; rw [h, if_pos rfl]
      obtain ⟨b, hbb⟩ : ∃ b, openL l = b := ⟨_, rfl⟩
      rw [hbb] at hbl hop hX ⊢
      by_cases h24 : 24 ≤ b.length ∧ (b.length - 24) % 9 = 0
      rotate_left
      · have h4 : ¬ sumOk4 b := fun h => h24 ⟨h.1, by have := h.2.2; omega⟩
        rw [decide_eq_false h24, decide_eq_false h4]
        simp
      · have hlen : b.length = 24 + 9 * sumN b := by unfold sumN; omega
        obtain ⟨J, hJ⟩ : ∃ J, sumN b = J := ⟨_, rfl⟩
        rw [hJ] at hlen hX ⊢
        have h4 : sumOk4 b ↔ (b16 b ≤ 1 ∧ b17 b = J) := ⟨fun h => ⟨h.2.1, by have := h.2.2; omega⟩, fun h => ⟨h24.1, h.1, by rw [h.2]; exact hlen⟩⟩
        rw [decide_eq_true hk, decide_eq_true h24]
        cases hm : entrysMay (entrys b 24 J) with
        | false =>
          by_cases h5 : sumOk4 b
          · have h6 := (h4.1 h5).2
            unfold entrysMay at hm
            rw [entrys_len] at hm
            rw [h6, hm]; simp
          · rw [decide_eq_false h5]; simp
        | true =>
          have hrd : sumRdOk l = true := by unfold sumRdOk; rw [hb, hk, hbb, hJ, hm, decide_eq_true h24]; rfl
          rw [hX hrd]
          have hw := rsum_wr b J (by omega) hm
          have hml : mayB 3 (fB (sumL (rsum b J))) = true := (mayB_iff _ _).2 ⟨by decide, by rw [sumL_len]; show 24 + 9 * (entrys b 24 J).length ≤ 120; rw [entrys_len]; omega⟩
          have hB : sumB (rsum b J) = true := by unfold sumB; rw [hw, hml]; rfl
          have hS : sumS (rsum b J) = sealS 3 (fB (sumL (rsum b J))) := by unfold sumS wrS; rw [hw, if_pos rfl]; unfold makeS; rw [hml, if_pos rfl]
          have hl : l = sealS 3 b := by
            conv => lhs; rw [← hop]
            unfold makeS
            rw [if_pos ((mayB_iff _ _).2 ⟨by decide, hbl⟩)]
          have hiff : (sumS (rsum b J) = l) ↔ (b16 b ≤ 1 ∧ b17 b = J) := by
            rw [hS, ← sum_same b J hlen (by omega)]
            conv => lhs; rhs; rw [hl]
            rw [seal_inj 3 3 _ _ ((mayB_iff _ _).1 hml).2 hbl]
            simp
          rw [hB]
          by_cases h5 : b16 b ≤ 1 ∧ b17 b = J
          · rw [decide_eq_true (hiff.2 h5), decide_eq_true (h4.2 h5), h5.2]
            unfold entrysMay at hm
            rw [entrys_len] at hm
            rw [hm]; rfl
          · rw [decide_eq_false (fun e => h5 (hiff.1 e)), decide_eq_false (fun e => h5 (h4.1 e))]
            rfl
theorem sumX_ref (l : List UInt8) (h : sumOk l = true) : sumX l = rsum (openL l) (b17 (openL l)) := by
  have h2 := h
  rw [sumOk_ref] at h2
  unfold sumX
  rw [h, if_pos rfl]
  have h3 : sumRdOk l = true := by unfold sumOk at h; rw [Bool.and_eq_true] at h; exact h.1
  unfold sumRdX
  rw [h3, if_pos rfl]
  unfold sumRefOk at h2
  rw [Bool.and_eq_true, Bool.and_eq_true, Bool.and_eq_true] at h2
  have h4 : sumOk4 (openL l) := of_decide_eq_true h2.2.1
  have : sumN (openL l) = b17 (openL l) := by have := h4.2.2; unfold sumN; omega
  rw [this]
/-- What is written is read again. -/
theorem sum_read (x : Smy) (hx : x.Ok) (h : sumB x = true) : sumOk (sumS x) = true ∧ sumX (sumS x) = x := by
  unfold sumB at h
  rw [Bool.and_eq_true] at h
  obtain ⟨hw, hm⟩ := h
  have hS : sumS x = makeS 3 (fB (sumL x)) := by unfold sumS wrS; rw [hw, if_pos rfl]
  obtain ⟨h1, h2, h3⟩ := open_makeS 3 _ hm
  rw [← hS] at h1 h2 h3
  have hw2 := hw
  unfold sumWr at hw2
  rw [Bool.and_eq_true] at hw2
  have hbd : fBad (sumL x) = false := by simpa using hw2.2
  have hback := sum_back x hbd
  have hlen := sumL_len x
  have hN : sumN (fB (sumL x)) = x.ents.length := by unfold sumN; omega
  have hents : entrys (fB (sumL x)) 24 x.ents.length = x.ents := congrArg Smy.ents hback
  have hrd : sumRdOk (sumS x) = true := by
    unfold sumRdOk
    rw [h1, h2, h3, hN, hents, hw2.1, decide_eq_true (show 24 ≤ (fB (sumL x)).length ∧ ((fB (sumL x)).length - 24) % 9 = 0 from ⟨by omega, by omega⟩)]
    rfl
  have hX : sumRdX (sumS x) = x := by unfold sumRdX; rw [hrd, if_pos rfl, h3, hN, hback]
  have hok : sumOk (sumS x) = true := by
    unfold sumOk
    rw [hrd, hX, decide_eq_true (show sumS x = sumS x from rfl)]
    unfold sumB
    rw [hw, hm]; rfl
  refine ⟨hok, ?_⟩
  unfold sumX
  rw [hok, if_pos rfl, hX]
end Go.Proofs.Ytlcbfpcabalgcaa
