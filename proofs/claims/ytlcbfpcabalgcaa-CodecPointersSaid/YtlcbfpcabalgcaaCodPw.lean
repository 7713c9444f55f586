/-
  Codec: pointers: what is written is read; two arrays compared.
-/
import Derived.Test.YtlcbfpcabalgcaaCodPv
namespace Go.Proofs.Ytlcbfpcabalgcaa
open Go.RowKit
set_option linter.unusedVariables false
set_option linter.unusedSimpArgs false
set_option linter.unnecessarySimpa false
theorem part_ptrB (z : List Int) (hz : ptrOk z = true) (k : Nat) (n : Int) (h : z[k]? = some n) : (part (ptrB z) (4 * k) 4 : Int) = n := by
  induction z generalizing k with
  | nil => simp at h
  | cons x r ih =>
    have hx : inP x = true := by
      have := List.all_eq_true.1 hz x List.mem_cons_self
      exact this
    have hr : ptrOk r = true := List.all_eq_true.2 fun y hy => List.all_eq_true.1 hz y (List.mem_cons_of_mem _ hy)
    obtain ⟨h1, h2⟩ : 0 ≤ x ∧ x ≤ 65535 := of_decide_eq_true hx
    cases k with
    | zero =>
      simp only [List.getElem?_cons_zero, Option.some.injEq] at h
      subst h
      unfold part ptrB
      rw [Nat.mul_zero, List.drop_zero, List.take_append_of_le_length (by rw [le_length]; exact Nat.le_refl _), List.take_of_length_le (by rw [le_length]; exact Nat.le_refl _), leNat_le_of _ _ (by omega)]
      omega
    | succ k =>
      simp only [List.getElem?_cons_succ] at h
      have q := ih hr k h
      unfold part at q ⊢
      rw [ptrB, List.drop_append, List.drop_eq_nil_of_le (by rw [le_length]; omega), List.nil_append, le_length, show 4 * (k + 1) - 4 = 4 * k from by omega]
      exact q
theorem ptr_back (z : List Int) (h : z.length = 32) (hz : ptrOk z = true) : rptOk (ptrB z) = true ∧ rptV (ptrB z) = z := by
  have hall : ∀ k, k < 32 → ∃ n, z[k]? = some n ∧ (part (ptrB z) (4 * k) 4 : Int) = n ∧ n ≤ 65535 := fun k hk => by
    have hk2 : z[k]? = some z[k] := List.getElem?_eq_getElem (by omega)
    refine ⟨_, hk2, part_ptrB z hz k _ hk2, ?_⟩
    have := List.all_eq_true.1 hz _ (List.mem_of_getElem? hk2)
    exact (of_decide_eq_true this : 0 ≤ z[k] ∧ z[k] ≤ 65535).2
  have hok : rptOk (ptrB z) = true := by
    unfold rptOk
    rw [List.all_eq_true]
    intro k hk
    obtain ⟨n, _, h2, h3⟩ := hall k (List.mem_range.1 hk)
    unfold ptBig
    rw [decide_eq_false (by omega)]; rfl
  refine ⟨hok, ?_⟩
  unfold rptV
  rw [hok, if_pos rfl]
  apply List.ext_getElem?
  intro k
  by_cases hk : k < 32
  · obtain ⟨n, h1, h2, _⟩ := hall k hk
    rw [h1]
    unfold ptK
    rw [Nat.sub_self, List.replicate_zero, List.append_nil, List.getElem?_map, List.getElem?_range hk, Option.map_some, h2]
  · rw [List.getElem?_eq_none (by rw [ptK_len _ 32 (Nat.le_refl _)]; omega), List.getElem?_eq_none (by omega)]
theorem eqItems_ints (d : Nat) (w : World) (z : List Int) : ∀ (is : List Nat), (∀ i ∈ is, i < z.length) →
    (Op.eqItems (d + 1) 3 1 (ints z).toArray (ints z).toArray is).run Try.prog w = .ok true w
  | [], _ => by simp [Op.eqItems]
  | i :: r, h => by
    have h1 := h i (by simp)
    have hi := ints_at z i _ (List.getElem?_eq_getElem h1)
    have p1 := run_part_plain (P := Try.prog) (e := 3) w (by kernel_rfl) (xs := (ints z).toArray) (off := i * 1) (v := .int .i64 z[i]) (by rw [Nat.mul_one]; exact hi)
    have p3 := run_equalIn_int (P := Try.prog) w d 3 .i64 .i64 z[i] z[i] Try.underlying3
    have ih := eqItems_ints d w z r (fun j hj => h j (by simp [hj]))
    simp only [Op.eqItems, Sem.run_bind, p1, p3, Result.andThen_ok, beq_self_eq_true]
    simpa using ih
theorem eq_ptr (w : World) (z : List Int) (h : z.length = 32) : (Op.equalIn 10000 54 (.agg (ints z).toArray) (.agg (ints z).toArray)).run Try.prog w = .ok true w := by
  have hi : ∃ i, Try.prog.info? 3 = some i := by
    cases hi : Try.prog.info? 3 with
    | none => have : (Try.prog.info? 3).map (·.size) = some 1 := by kernel_rfl
              rw [hi] at this; cases this
    | some i => exact ⟨i, rfl⟩
  obtain ⟨i, hi⟩ := hi
  show (Op.equalIn (9999 + 1) _ _ _).run _ _ = _
  rw [run_equalIn_array w 9999 _ _ Try.underlying54 hi, show Try.prog.cellsOf 3 = 1 by kernel_rfl]
  exact eqItems_ints 9998 w z _ (fun i hi => by rw [h]; simpa using hi)
theorem rptV_i64 (l : List UInt8) : ∀ n ∈ rptV l, I64 n := by
  intro n hn
  unfold rptV at hn
  split at hn
  · unfold ptK at hn
    rw [Nat.sub_self, List.replicate_zero, List.append_nil, List.mem_map] at hn
    obtain ⟨i, _, rfl⟩ := hn
    have := part_lt l (4 * i) 4
    exact ⟨by omega, by omega⟩
  · rw [List.eq_of_mem_replicate hn]; exact ⟨by decide, by decide⟩
end Go.Proofs.Ytlcbfpcabalgcaa
