/-
  DrumlinPlaces: for every geometry, every list of numbers and every list of booleans the law returns true, and what came in reads as it did. Conditions: none but the form's own.
-/
import Derived.Test.YtcpfafmkhegckaaRow
import Derived.Test.YtcpfafmkhegckaaPlF
import Derived.Test.YtcpfafmkhegckaaOpen
namespace Go.Proofs.Ytcpfafmkhegckaa
open Go.ChangeShapes Go.WideShapes Go.ChangeAt Go.RowKit
set_option linter.unusedVariables false
set_option maxRecDepth 100000 in
theorem drumlinPlaces_lifted (os : Os) (started : os.Started) (H : Type) (enc : TypeId × Value → H) :
    ReturnsInHanded {} Try.checked os 3 .any (Rows.drumlinPlacesSpec.pre6 enc Try.prog Try.f3 Rows.drumlinPlacesRow.domain false) (Rows.drumlinPlacesSpec.post enc Try.prog Try.f3 false true false false) := by
  refine returnsInHanded_of_change_sized (C := Try.checked) own_ started (by kernel_rfl) Try.func3
    (ChangeSpec.witness6 (enc := enc) (C := Try.checked) false ⟨#[], #[.agg #[.int .i64 0, .int .i64 0, .int .i64 0], .slice none 0 0, .slice none 0 0], []⟩ 12 (by kernel_rfl) (by kernel_rfl) (by kernel_rfl) (by kernel_rfl)) ?_
  intro W base args ds gs before hval0 hW hcnd hsz0 _
  have hsz : (DataW.weightsEach Try.prog (Try.f3.params.toList ++ Rows.drumlinPlacesSpec.plain.varTypes Try.prog) (ds ++ gs)).all (· ≤ reachBytes) = true := hsz0
  have hval : ∀ (j : Nat) t v, Try.f3.params[j]? = some t → args[j]? = some v → Value.okWide Try.prog W .any base t v := hval0
  have hW' := hW
  obtain ⟨p, q, hA0, hV, rfl, hfz, hnd⟩ := hW
  have hA : DataW.TrodAll enc Try.prog W 0 (fun _ => true) true Try.f3.params.toList args.toList ds p := hA0
  rw [Try.params3] at hA hval hsz
  obtain ⟨v0, vs0, d0, ds0, p0, q0, hargs, rfl, rfl, h0, r0⟩ := trodAll_cons hA
  obtain ⟨v1, vs1, d1, ds1, p1, q1, rfl, rfl, rfl, h1, r1⟩ := trodAll_cons r0
  obtain ⟨v2, vs2, d2, ds2, p2, q2, rfl, rfl, rfl, h2, r2⟩ := trodAll_cons r1
  obtain ⟨rfl, rfl, rfl⟩ := trodAll_nil r2
  obtain rfl : args = #[v0, v1, v2] := by cases args; simp_all
  obtain ⟨rfl, rfl⟩ := trodVars_none hV
  have k0 := h0
  have lt0 := trod_places_lt k0
  have k1 := h1
  have lt1 := trod_places_lt k1
  have k2 := h2
  have lt2 := trod_places_lt k2
  obtain ⟨c0, c1, c2, y0, y1, y2, nn, rfl, _, _, f0, f1, f2⟩ := Go.Joins.open_agg3 Try.underlying23 (by kernel_rfl) (by kernel_rfl) (hval 0 23 v0 rfl rfl) h0
  obtain ⟨gs, e0, _, wg0⟩ := DataW.trod_int Try.underlying3 f0
  obtain ⟨gg, e1, _, wg1⟩ := DataW.trod_int Try.underlying3 f1
  obtain ⟨gi, e2, _, wg2⟩ := DataW.trod_int Try.underlying3 f2
  obtain rfl : c0 = .int .i64 gs := by simpa using e0
  obtain rfl : c1 = .int .i64 gg := by simpa using e1
  obtain rfl : c2 = .int .i64 gi := by simpa using e2
  obtain ⟨q1, rfl, ⟨_, _, hw1, hv1⟩, hl1⟩ := open_sli (f := inF) (k := 1) hsz (j := 1) (t := 24) rfl rfl Try.underlying24 (by kernel_rfl) (by decide) inF_len (good_int Try.underlying3) (hval 1 24 v1 rfl rfl) h1
  have hB1 : Try.prog.bytesOf 3 = 8 := by kernel_rfl
  rw [hB1, reach_eq] at hl1
  obtain ⟨q2, rfl, ⟨_, _, hw2, hv2⟩, hl2⟩ := open_sli (f := boF) (k := 1) hsz (j := 2) (t := 25) rfl rfl Try.underlying25 (by kernel_rfl) (by decide) boF_len (good_bool Try.underlying4) (hval 2 25 v2 rfl rfl) h2
  clear hA0 hval0 hsz0 hsz
  refine (drumlinPlaces_walk gs gg gi (wf_i64 wg0) (wf_i64 wg1) q1.A q1.c q1.L q2.A q2.c q2.L W hv1 (by omega) (fun n hn => wf_i64 (hw1 n hn)) hv2).mono fun e W' ⟨he, bel⟩ => ?_
  subst he
  exact ⟨_, rfl, _, _, _, [], _, [], hW', trodAll_mk1 (shut_bool Try.underlying4 _), (trodAll_cons_mk (Below.trod laidOut_ (by kernel_rfl) (of_decide_eq_true (by kernel_rfl)) k0 bel lt0) (trodAll_cons_mk (Below.trod laidOut_ (by kernel_rfl) (of_decide_eq_true (by kernel_rfl)) k1 bel lt1) (trodAll_cons_mk (Below.trod laidOut_ (by kernel_rfl) (of_decide_eq_true (by kernel_rfl)) k2 bel lt2) trodAll_mk0))), rfl, bel.frame _, fun h => by cases h⟩
/-- DrumlinPlaces: for every geometry, every list of numbers and every list of booleans the law returns true, and what came in reads as it did. Conditions: none but the form's own. -/
theorem drumlinPlaces_holds : Rows.DrumlinPlacesSaid :=
  OpenClaim.holds_of_wide 3 Try.f3 rfl rfl rfl rfl rfl rfl rfl ⟨rfl, rfl, rfl, rfl, rfl⟩ rfl rfl rfl rfl rfl (by kernel_rfl) Try.func3 (by kernel_rfl)
    (of_decide_eq_true (by kernel_rfl)) (by unfold Func.isWrapper; first | (rw [if_pos (by decide +kernel)]; kernel_rfl) | (rw [if_neg (by decide +kernel)]; exact ⟨rfl, rfl⟩))
    (fun os started H enc _ => drumlinPlaces_lifted os started H enc)
#print axioms drumlinPlaces_holds
end Go.Proofs.Ytcpfafmkhegckaa
