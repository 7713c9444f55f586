/-
  Codec: what is written is read again; equal inodes.
-/
import Derived.Test.YtlcbfpcabalgcaaCodO
import Derived.Laws.StructEq
namespace Go.Proofs.Ytlcbfpcabalgcaa
open Go.RowKit
set_option linter.unusedVariables false
set_option linter.unusedSimpArgs false
set_option linter.unnecessarySimpa false
theorem fBad_mid {A B : List (Nat × Int)} {x : Nat × Int} (h : fBad (A ++ x :: B) = false) : 0 ≤ x.2 ∧ fitB x.1 x.2.toNat = true := by
  rw [fBad_append, Bool.or_eq_false_iff] at h
  have h2 := h.2
  rw [fBad, Bool.or_eq_false_iff, Bool.or_eq_false_iff] at h2
  have h3 := h2.1.1
  have h4 := h2.1.2
  simp at h3 h4
  exact ⟨h3, h4⟩
theorem fitB_lt {k x : Nat} (h : fitB k x = true) : 1 ≤ k ∧ k ≤ 8 ∧ x < 256 ^ k := by
  unfold fitB putOk at h
  rw [Bool.and_eq_true, fitsB_iff] at h
  have h2 := h.2
  simp at h2
  exact ⟨by omega, by omega, h2⟩
/-- A number that was written is read again. -/
theorem rN_fB {A B : List (Nat × Int)} {x : Nat × Int} (h : fBad (A ++ x :: B) = false) : (rN (fB (A ++ x :: B)) (fB A).length x.1 : Int) = x.2 := by
  obtain ⟨h0, h1⟩ := fBad_mid h
  obtain ⟨k1, k8, hx⟩ := fitB_lt h1
  have e : fB (A ++ x :: B) = fB A ++ (le x.1 x.2.toNat ++ fB B) := by rw [fB_append, fB]; unfold wB; rw [h1, if_pos rfl]
  rw [e, rN_part _ _ _ ⟨k1, k8⟩ (by rw [List.length_append, List.length_append, le_length]; omega)]
  have h2 : part (fB A ++ (le x.1 x.2.toNat ++ fB B)) (fB A).length x.1 = x.2.toNat := by
    unfold part
    rw [List.drop_append_of_le_length (Nat.le_refl _), List.drop_length, List.nil_append, List.take_append_of_le_length (by rw [le_length]; exact Nat.le_refl _), List.take_of_length_le (by rw [le_length]; exact Nat.le_refl _), leNat_le_of _ _ hx]
  rw [h2]
  omega
/-- The same, at a place that is said. -/
theorem rN_at {L : List (Nat × Int)} (h : fBad L = false) (i a k : Nat) (x : Int) (hi : L[i]? = some (k, x)) (ha : ((L.take i).map (·.1)).sum = a) : (rN (fB L) a k : Int) = x := by
  obtain ⟨hk, e⟩ := List.getElem?_eq_some_iff.1 hi
  have e2 : L.take i ++ (k, x) :: L.drop (i + 1) = L := by rw [← e, ← List.drop_eq_getElem_cons hk, List.take_append_drop]
  have h2 := rN_fB (A := L.take i) (x := (k, x)) (B := L.drop (i + 1)) (by rw [e2]; exact h)
  rw [e2, fB_len, ha] at h2
  exact h2
theorem len8 {ds : List Int} (h : ds.length = 8) : ∃ d0 d1 d2 d3 d4 d5 d6 d7, ds = [d0, d1, d2, d3, d4, d5, d6, d7] := by
  match ds, h with
  | [d0, d1, d2, d3, d4, d5, d6, d7], _ => exact ⟨_, _, _, _, _, _, _, _, rfl⟩
theorem rds_eight (l : List UInt8) : rds l 8 = [(rN l 15 4 : Int), (rN l 19 4 : Int), (rN l 23 4 : Int), (rN l 27 4 : Int), (rN l 31 4 : Int), (rN l 35 4 : Int), (rN l 39 4 : Int), (rN l 43 4 : Int)] := rfl
set_option maxHeartbeats 4000000 in
theorem ino_back (x : Ino) (hx : x.Ok) (h : fBad (inoL x) = false) : rino (fB (inoL x)) = x := by
  obtain ⟨num, ver, kind, size, time, ds, single, dbl⟩ := x
  have hlen := hx.len
  dsimp only at hlen
  obtain ⟨d0, d1, d2, d3, d4, d5, d6, d7, rfl⟩ : ∃ d0 d1 d2 d3 d4 d5 d6 d7, ds = [d0, d1, d2, d3, d4, d5, d6, d7] := len8 hlen
  have hL : inoL ⟨num, ver, kind, size, time, [d0, d1, d2, d3, d4, d5, d6, d7], single, dbl⟩ = [(2, (num : Int)), (4, (ver : Int)), (1, kind), (4, size), (4, (time : Int)), (4, d0), (4, d1), (4, d2), (4, d3), (4, d4), (4, d5), (4, d6), (4, d7), (4, single), (4, dbl)] := rfl
  rw [hL] at h ⊢
  have q := fun (i a k : Nat) (x : Int) => rN_at h i a k x
  unfold rino
  have e0 := q 0 0 2 _ rfl rfl
  have e1 := q 1 2 4 _ rfl rfl
  have e2 := q 2 6 1 _ rfl rfl
  have e3 := q 3 7 4 _ rfl rfl
  have e4 := q 4 11 4 _ rfl rfl
  have e5 := q 5 15 4 _ rfl rfl
  have e6 := q 6 19 4 _ rfl rfl
  have e7 := q 7 23 4 _ rfl rfl
  have e8 := q 8 27 4 _ rfl rfl
  have e9 := q 9 31 4 _ rfl rfl
  have e10 := q 10 35 4 _ rfl rfl
  have e11 := q 11 39 4 _ rfl rfl
  have e12 := q 12 43 4 _ rfl rfl
  have e13 := q 13 47 4 _ rfl rfl
  have e14 := q 14 51 4 _ rfl rfl
  have hds : rds (fB [(2, (num : Int)), (4, (ver : Int)), (1, kind), (4, size), (4, (time : Int)), (4, d0), (4, d1), (4, d2), (4, d3), (4, d4), (4, d5), (4, d6), (4, d7), (4, single), (4, dbl)]) 8 = [d0, d1, d2, d3, d4, d5, d6, d7] := by
    rw [rds_eight, e5, e6, e7, e8, e9, e10, e11, e12]
  rw [hds, e2, e3, e13, e14]
  congr 1 <;> omega
theorem fBad_inoL_len (x : Ino) (hx : x.Ok) : (fB (inoL x)).length = 55 := by
  rw [fB_len]
  simp only [inoL, inoL5, fourL, List.map_append, List.map_cons, List.map_nil, List.map_map, List.sum_append, List.sum_cons, List.sum_nil]
  have h1 : (List.map ((fun q : Nat × Int => q.1) ∘ fun d => (4, d)) x.ds).sum = 4 * x.ds.length := by
    generalize x.ds = ds
    induction ds with
    | nil => rfl
    | cons d r ih => rw [List.map_cons, List.sum_cons, ih, List.length_cons]; simp; omega
  rw [h1, hx.len]
  rfl
/-- What was sealed is opened again. -/
theorem open_makeS (kind : UInt8) (L : List UInt8) (h : mayB kind L = true) : openB (makeS kind L) = true ∧ openK (makeS kind L) = kind ∧ openL (makeS kind L) = L := by
  have e : makeS kind L = sealS kind L := by unfold makeS; rw [h]; rfl
  have hb := open_seal kind L h
  rw [e]
  refine ⟨hb, ?_, ?_⟩
  · unfold openK; rw [hb, if_pos rfl]; exact seal_at2 kind L
  · unfold openL; rw [hb, if_pos rfl]; exact bodyOf_seal kind L ((mayB_iff kind L).1 h).2
theorem makeE_ok (kind : UInt8) (L : List UInt8) : makeE kind L = if mayB kind L then 0 else 1 := by unfold makeE; cases mayB kind L <;> rfl
theorem ino_read (x : Ino) (hx : x.Ok) (hm : inoMay x.kind = true) (h : fBad (inoL x) = false) : rinoOk (wrS 2 true (fB (inoL x))) = true ∧ rinoV (wrS 2 true (fB (inoL x))) = x := by
  have hlen := fBad_inoL_len x hx
  have hmay : mayB 2 (fB (inoL x)) = true := (mayB_iff _ _).2 ⟨by decide, by omega⟩
  obtain ⟨h1, h2, h3⟩ := open_makeS 2 _ hmay
  have hback := ino_back x hx h
  have hk : (rN (fB (inoL x)) 6 1 : Int) = x.kind := by rw [← hback]; rw [hback]; exact congrArg Ino.kind hback
  have hok : rinoOk (wrS 2 true (fB (inoL x))) = true := by
    unfold rinoOk wrS
    rw [if_pos rfl, h1, h2, h3, hlen, hk, hm]; rfl
  refine ⟨hok, ?_⟩
  unfold rinoV
  rw [hok, if_pos rfl]
  unfold wrS
  rw [if_pos rfl, h3, hback]
theorem eq_arr8 (w : World) (ds : List Int) (h : ds.length = 8) : (Op.equalIn 9999 23 (.agg (ds.map (Value.int .i64 ·)).toArray) (.agg (ds.map (Value.int .i64 ·)).toArray)).run Try.prog w = .ok true w := by
  obtain ⟨d0, d1, d2, d3, d4, d5, d6, d7, rfl⟩ : ∃ d0 d1 d2 d3 d4 d5 d6 d7, ds = [d0, d1, d2, d3, d4, d5, d6, d7] := len8 h
  have h : ∃ i, Try.prog.info? 3 = some i := by
    cases hi : Try.prog.info? 3 with
    | none => have : (Try.prog.info? 3).map (·.size) = some 1 := by kernel_rfl
              rw [hi] at this; cases this
    | some i => exact ⟨i, rfl⟩
  obtain ⟨i, hi⟩ := h
  show (Op.equalIn (9998 + 1) _ _ _).run _ _ = _
  rw [run_equalIn_array w 9998 _ _ Try.underlying23 hi, show Try.prog.cellsOf 3 = 1 by kernel_rfl]
  show Sem.run Try.prog (Op.eqItems 9998 3 1 #[.int .i64 d0, .int .i64 d1, .int .i64 d2, .int .i64 d3, .int .i64 d4, .int .i64 d5, .int .i64 d6, .int .i64 d7] #[.int .i64 d0, .int .i64 d1, .int .i64 d2, .int .i64 d3, .int .i64 d4, .int .i64 d5, .int .i64 d6, .int .i64 d7] [0, 1, 2, 3, 4, 5, 6, 7]) w = _
  simp only [Op.eqItems]
  go_simp
theorem eq_ino (w : World) (x : Ino) (hx : x.ds.length = 8) : (Op.equalIn 10000 33 (.agg x.cells.toArray) (.agg x.cells.toArray)).run Try.prog w = .ok true w := by
  have hu := Try.underlying33
  have hf : Try.prog.underlying 33 = some (.struct (Try.prog.fieldsOf 33)) := by unfold Program.fieldsOf; rw [hu]
  rw [run_equalIn_struct w 9999 _ _ _ hf (by kernel_rfl)]
  unfold Program.fieldsOf
  rw [hu]
  simp only [Op.eqFields]
  obtain ⟨num, ver, kind, size, time, ds, single, dbl⟩ := x
  dsimp only at hx
  have ha := fun W => eq_arr8 W ds hx
  obtain ⟨d0, d1, d2, d3, d4, d5, d6, d7, rfl⟩ : ∃ d0 d1 d2 d3 d4 d5 d6 d7, ds = [d0, d1, d2, d3, d4, d5, d6, d7] := len8 hx
  have ha2 : ∀ W, (Op.equalIn 9999 23 (.agg #[.int .i64 d0, .int .i64 d1, .int .i64 d2, .int .i64 d3, .int .i64 d4, .int .i64 d5, .int .i64 d6, .int .i64 d7]) (.agg #[.int .i64 d0, .int .i64 d1, .int .i64 d2, .int .i64 d3, .int .i64 d4, .int .i64 d5, .int .i64 d6, .int .i64 d7])).run Try.prog W = .ok true W := ha
  clear ha
  have hc : (Ino.mk num ver kind size time [d0, d1, d2, d3, d4, d5, d6, d7] single dbl).cells.toArray = #[.int .u32 (num : Int), .int .u32 (ver : Int), .int .i64 kind, .int .i64 size, .int .u32 (time : Int), .int .i64 d0, .int .i64 d1, .int .i64 d2, .int .i64 d3, .int .i64 d4, .int .i64 d5, .int .i64 d6, .int .i64 d7, .int .i64 single, .int .i64 dbl] := rfl
  rw [hc]
  go_simp
end Go.Proofs.Ytlcbfpcabalgcaa
