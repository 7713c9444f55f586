/-
  CodecSummaries: for every summary (numbers of their kinds, any entries) and every slice of bytes the law returns true, and what came in reads as it did. Conditions: none but the form's own.
-/
import Derived.Test.YtlcbfpcabalgcaaRow
import Derived.Test.YtlcbfpcabalgcaaLaw05s
namespace Go.Proofs.Ytlcbfpcabalgcaa
open Go.ChangeShapes Go.WideShapes Go.ChangeAt Go.RowKit
set_option linter.unusedVariables false
section
open Go.Deep
set_option linter.unusedSimpArgs false
set_option linter.unnecessarySimpa false
set_option maxRecDepth 10000
theorem drop_end {l : List Value} {n : Nat} (h : l.length = n) : l.drop n = [] := by rw [← h]; exact List.drop_length
section
variable {H : Type} {enc : TypeId × Value → H} {W : World} {base : Nat} {spare : Nat → Bool} {held : Bool}
/-- An argument that is a struct. -/
theorem open_rowG {α : Type} {t : TypeId} {fs : Array Field} {f : α → List Value} {good : α → Prop} {v : Value} {d : DataW H} {ps : List MemPlace} {r : Reach} {b0 : Nat} (hu : Try.prog.underlying t = some (.struct fs))
    (he : Good enc Try.prog W base spare held t f good) (hv : Value.okWide Try.prog W r b0 t v) (h : DataW.Trod enc Try.prog W base spare held t v d ps) : ∃ a, v = .agg (f a).toArray ∧ good a := by
  have hagg : ∃ cs, v = .agg cs := by
    unfold Value.okWide at hv
    rw [hu] at hv
    obtain ⟨cs, h1, _⟩ := hv
    exact ⟨cs, h1⟩
  obtain ⟨cs, rfl⟩ := hagg
  obtain ⟨fuel, hf⟩ := h
  obtain ⟨a, ha, hg⟩ := he fuel _ _ hf
  have q2 : (Value.agg cs).cells.toList = cs.toList := rfl
  rw [q2] at ha
  exact ⟨a, by rw [← ha], hg⟩
theorem i64_of {b : Int} (wb : (Lit.int .i64 b).wf = true) : I64 b := by
  have : -9223372036854775808 ≤ b ∧ b ≤ 9223372036854775807 := by simpa [Lit.wf, IntKind.min, IntKind.max, IntKind.signed, IntKind.bits] using wb
  exact this
theorem u32_of {b : Int} (wb : (Lit.int .u32 b).wf = true) : ∃ n : Nat, b = (n : Int) ∧ n < 2 ^ 32 := by
  have : 0 ≤ b ∧ b ≤ 4294967295 := by simpa [Lit.wf, IntKind.min, IntKind.max, IntKind.signed, IntKind.bits] using wb
  exact ⟨b.toNat, by omega, by omega⟩
theorem u64_of {b : Int} (wb : (Lit.int .u64 b).wf = true) : ∃ n : Nat, b = (n : Int) ∧ n < 2 ^ 64 := by
  have : 0 ≤ b ∧ b ≤ 18446744073709551615 := by simpa [Lit.wf, IntKind.min, IntKind.max, IntKind.signed, IntKind.bits] using wb
  exact ⟨b.toNat, by omega, by omega⟩
theorem rowsOf_ints (L : List Int) : rowsOf (fun z : Int => [Value.int .i64 z]) L = L.map (Value.int .i64 ·) := by
  induction L with
  | nil => rfl
  | cons x r ih => rw [rowsOf_cons, ih]; rfl
end
structure SumIn where
  x : Smy
  A : Option Addr
  c : Nat
def SumIn.cells (s : SumIn) : List Value := [.int .u64 (s.x.seq : Int), .int .u64 (s.x.first : Int), .bool s.x.commit, .int .i64 s.x.next, .int .u32 (s.x.time : Int), .slice s.A s.x.ents.length s.c]
structure SumIn.Good (W : World) (s : SumIn) : Prop where
  pre : s.x.Pre
  len : s.x.ents.length ≤ s.c
  cap : s.c ≤ maxLen
  read : ReadAt W s.A Ent5.cells 4 s.x.ents
section
variable {H : Type} {enc : TypeId × Value → H} {W : World} {base : Nat} {spare : Nat → Bool} {held : Bool}
theorem good_ent : Good enc Try.prog W base spare held 162 Ent5.cells Ent5.Ok :=
  good_struct Try.underlying162 (fun n cs hl hf => by
    obtain ⟨⟨a0, h0, w0⟩, hf⟩ := struct_cons (o := 0) (k := 1) (by rfl) (by kernel_rfl) (good_int Try.underlying3) hf
    obtain ⟨⟨a1, h1, w1⟩, hf⟩ := struct_cons (o := 1) (k := 1) (by rfl) (by kernel_rfl) (good_int Try.underlying22) hf
    obtain ⟨⟨a2, h2, w2⟩, hf⟩ := struct_cons (o := 2) (k := 1) (by rfl) (by kernel_rfl) (good_int Try.underlying22) hf
    obtain ⟨⟨a3, h3, w3⟩, hf⟩ := struct_cons (o := 3) (k := 1) (by rfl) (by kernel_rfl) (good_int Try.underlying3) hf
    have hlen : cs.length = 4 := hl.trans (by kernel_rfl)
    obtain ⟨n1, rfl, l1⟩ := u32_of w1
    obtain ⟨n2, rfl, l2⟩ := u32_of w2
    rw [List.drop_zero] at h0
    rw [h0, h1, h2, h3, drop_end hlen]
    exact ⟨⟨a0, n1, n2, a3⟩, by simp [Ent5.cells], ⟨i64_of w0, l1, l2, i64_of w3⟩⟩)
theorem good_sum : Good enc Try.prog W base spare held 101 SumIn.cells (SumIn.Good W) :=
  good_struct Try.underlying101 (fun n cs hl hf => by
    obtain ⟨⟨a0, h0, w0⟩, hf⟩ := struct_cons (o := 0) (k := 1) (by rfl) (by kernel_rfl) (good_int Try.underlying43) hf
    obtain ⟨⟨a1, h1, w1⟩, hf⟩ := struct_cons (o := 1) (k := 1) (by rfl) (by kernel_rfl) (good_int Try.underlying43) hf
    obtain ⟨⟨a2, h2, w2⟩, hf⟩ := struct_cons (o := 2) (k := 1) (by rfl) (by kernel_rfl) (good_bool Try.underlying4) hf
    obtain ⟨⟨a3, h3, w3⟩, hf⟩ := struct_cons (o := 3) (k := 1) (by rfl) (by kernel_rfl) (good_int Try.underlying3) hf
    obtain ⟨⟨a4, h4, w4⟩, hf⟩ := struct_cons (o := 4) (k := 1) (by rfl) (by kernel_rfl) (good_int Try.underlying22) hf
    obtain ⟨⟨a5, h5, w5⟩, hf⟩ := struct_cons (o := 5) (k := 1) (by rfl) (by kernel_rfl) (good_slice Try.underlying99 (by kernel_rfl) (by decide) Ent5.cells_len good_ent) hf
    have hlen : cs.length = 6 := hl.trans (by kernel_rfl)
    obtain ⟨n0, rfl, l0⟩ := u64_of w0
    obtain ⟨n1, rfl, l1⟩ := u64_of w1
    obtain ⟨n4, rfl, l4⟩ := u32_of w4
    obtain ⟨A, c, L⟩ := a5
    obtain ⟨q1, q2, q3, q4⟩ := w5
    rw [List.drop_zero] at h0
    rw [h0, h1, h2, h3, h4, h5, drop_end hlen]
    exact ⟨⟨⟨n0, n1, a2, a3, n4, L⟩, A, c⟩, by simp [SumIn.cells, sliF], ⟨⟨l0, l1, i64_of w3, l4, q3⟩, q1, q2, q4⟩⟩)
end
end
set_option maxRecDepth 100000 in
theorem codecSummaries_lifted (os : Os) (started : os.Started) (H : Type) (enc : TypeId × Value → H) :
    ReturnsInHanded {} Try.checked os 9 .any (Rows.codecSummariesSpec.pre6 enc Try.prog Try.f9 Rows.codecSummariesRow.domain false) (Rows.codecSummariesSpec.post enc Try.prog Try.f9 false true false false) := by
  refine returnsInHanded_of_change_sized (C := Try.checked) own_ started (by kernel_rfl) Try.func9
    (ChangeSpec.witness6 (enc := enc) (C := Try.checked) false ⟨#[], #[.agg #[.int .u64 0, .int .u64 0, .bool false, .int .i64 0, .int .u32 0, .slice none 0 0], .slice none 0 0], []⟩ 12 (by kernel_rfl) (by kernel_rfl) (by kernel_rfl) (by kernel_rfl)) ?_
  intro W base args ds gs before hval0 hW hcnd hsz0 _
  have hsz : (DataW.weightsEach Try.prog (Try.f9.params.toList ++ Rows.codecSummariesSpec.plain.varTypes Try.prog) (ds ++ gs)).all (· ≤ reachBytes) = true := hsz0
  have hval : ∀ (j : Nat) t v, Try.f9.params[j]? = some t → args[j]? = some v → Value.okWide Try.prog W .any base t v := hval0
  have hW' := hW
  obtain ⟨p, q, hA0, hV, rfl, hfz, hnd⟩ := hW
  have hA : DataW.TrodAll enc Try.prog W 0 (fun _ => true) true Try.f9.params.toList args.toList ds p := hA0
  rw [Try.params9] at hA hval hsz
  obtain ⟨v0, vs0, d0, ds0, p0, q0, hargs, rfl, rfl, h0, r0⟩ := trodAll_cons hA
  obtain ⟨v1, vs1, d1, ds1, p1, q1, rfl, rfl, rfl, h1, r1⟩ := trodAll_cons r0
  obtain ⟨rfl, rfl, rfl⟩ := trodAll_nil r1
  obtain rfl : args = #[v0, v1] := by cases args; simp_all
  obtain ⟨rfl, rfl⟩ := trodVars_none hV
  have k0 := h0
  have lt0 := trod_places_lt k0
  have k1 := h1
  have lt1 := trod_places_lt k1
  obtain ⟨x0, rfl, hx0⟩ := open_rowG Try.underlying101 good_sum (hval 0 101 v0 rfl rfl) h0
  obtain ⟨l1, hb1, hl1⟩ := open_bytes hsz (j := 1) (t := 26) rfl rfl Try.underlying26 Try.underlying5 (by kernel_rfl) (by kernel_rfl) (hval 1 26 v1 rfl rfl) h1
  clear hA0 hval0 hsz0 hsz
  refine (codecSummaries_walk x0.x hx0.pre x0.A x0.c hx0.len hx0.cap v1 l1 W hx0.read (by omega) hb1).mono fun e W' ⟨he, bel⟩ => ?_
  subst he
  exact ⟨_, rfl, _, _, _, [], _, [], hW', trodAll_mk1 (shut_bool Try.underlying4 _), (trodAll_cons_mk (Below.trod laidOut_ (by kernel_rfl) (of_decide_eq_true (by kernel_rfl)) k0 bel lt0) (trodAll_cons_mk (Below.trod laidOut_ (by kernel_rfl) (of_decide_eq_true (by kernel_rfl)) k1 bel lt1) trodAll_mk0)), rfl, bel.frame _, fun h => by cases h⟩
/-- CodecSummaries: for every summary (numbers of their kinds, any entries) and every slice of bytes the law returns true, and what came in reads as it did. Conditions: none but the form's own. -/
theorem codecSummaries_holds : Rows.CodecSummariesSaid :=
  OpenClaim.holds_of_wide 9 Try.f9 rfl rfl rfl rfl rfl rfl rfl ⟨rfl, rfl, rfl, rfl, rfl⟩ rfl rfl rfl rfl rfl (by kernel_rfl) Try.func9 (by kernel_rfl)
    (of_decide_eq_true (by kernel_rfl)) (by unfold Func.isWrapper; first | (rw [if_pos (by decide +kernel)]; kernel_rfl) | (rw [if_neg (by decide +kernel)]; exact ⟨rfl, rfl⟩))
    (fun os started H enc _ => codecSummaries_lifted os started H enc)
#print axioms codecSummaries_holds
end Go.Proofs.Ytlcbfpcabalgcaa
