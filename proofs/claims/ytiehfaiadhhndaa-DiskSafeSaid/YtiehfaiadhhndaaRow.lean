/-
  What every statement's row needs: arguments opened into plain words on bytes and numbers.
-/
import Derived.Test.YtiehfaiadhhndaaRows
import Derived.Test.YtiehfaiadhhndaaBase
import Derived.ProofKit
import Derived.OpenShut
import Derived.ChangeOld
import Derived.SizedLaws
import Derived.Lib.SmallJoins
namespace Go.Proofs.Ytiehfaiadhhndaa
open Go.ChangeShapes Go.WideShapes Go.ChangeAt Go.RowKit
set_option linter.unusedVariables false
theorem own_ : ownKnob Try.prog.godebug = none := by kernel_rfl
theorem laidOut_ : laidOutB Try.prog = true := by kernel_rfl

theorem wf_i64 {n : Int} (h : (Lit.int .i64 n).wf = true) : -9223372036854775808 ≤ n ∧ n ≤ 9223372036854775807 := by
  simp [Lit.wf, IntKind.min, IntKind.max, IntKind.signed, IntKind.bits] at h; omega
theorem wf_u64 {n : Int} (h : (Lit.int .u64 n).wf = true) : ∃ x : Nat, n = (x : Int) ∧ x < 2 ^ 64 := by
  simp [Lit.wf, IntKind.min, IntKind.max, IntKind.signed, IntKind.bits] at h
  exact ⟨n.toNat, by omega, by omega⟩
theorem wf_u32 {n : Int} (h : (Lit.int .u32 n).wf = true) : ∃ x : Nat, n = (x : Int) ∧ x < 2 ^ 32 := by
  simp [Lit.wf, IntKind.min, IntKind.max, IntKind.signed, IntKind.bits] at h
  exact ⟨n.toNat, by omega, by omega⟩
theorem wf_u8 {n : Int} (h : (Lit.int .u8 n).wf = true) : ∃ x : UInt8, n = (x.toNat : Int) := by
  simp [Lit.wf, IntKind.min, IntKind.max, IntKind.signed, IntKind.bits] at h
  exact ⟨UInt8.ofNat n.toNat, by simp; omega⟩
section
variable {H : Type} {enc : TypeId × Value → H} {P : Program} {W : World} {base : Nat} {spare : Nat → Bool} {held : Bool}
theorem trod_places_lt {t : TypeId} {v : Value} {d : DataW H} {ps : List MemPlace} (h : DataW.Trod enc P W base spare held t v d ps) : ∀ x ∈ ps, x.block < W.heap.size := by
  obtain ⟨m, hm⟩ := h
  exact DataW.trod_lt m _ _ _ hm
/-- Bytes that came in. -/
theorem open_bytes {t e : TypeId} {v : Value} {d : DataW H} {ps : List MemPlace} {ts : List TypeId} {ds : List (DataW H)} {j : Nat} {r : Reach} {b0 : Nat}
    (hsz : (DataW.weightsEach P ts ds).all (· ≤ reachBytes) = true) (ht : ts[j]? = some t) (hd : ds[j]? = some d) (hu : P.underlying t = some (.slice e)) (he : P.underlying e = some (.int .u8)) (hc : P.cellsOf e = 1) (hB : P.bytesOf e = 1)
    (hv : Value.okWide P W r b0 t v) (h : DataW.Trod enc P W base spare held t v d ps) : ∃ l : List UInt8, Byt W v l ∧ l.length ≤ 140737488351232 := by
  obtain ⟨a, len, cap, rfl⟩ := okWide_slice hu hv
  obtain ⟨fuel, hf⟩ := h
  rcases open_ints hu he hc hf with ⟨hcs, _⟩ | ⟨x, l, c, zs, hcs, _, hl, hm, hz, hx, hcell, hwz⟩
  · simp [Value.cells] at hcs
    obtain ⟨rfl, rfl, rfl⟩ := hcs
    exact ⟨[], .inl ⟨rfl, none, 0, rfl, by simp [maxLen], fun _ => rfl⟩, by simp⟩
  · simp [Value.cells] at hcs
    obtain ⟨rfl, rfl, rfl⟩ := hcs
    obtain ⟨hx, _⟩ := Prod.mk.inj hx
    subst hx
    have hl2 : len ≤ zs.length := by rw [hz]; split <;> omega
    have hlen : len ≤ 140737488351232 := by
      have z := sized_slice hsz ht hd hu
      rw [hB] at z
      have h1 : (lits (H := H) IntKind.u8 (zs.take len)).length + (lits (H := H) IntKind.u8 (zs.drop len)).length = zs.length := by simp [lits]; omega
      rw [h1] at z
      unfold reachBytes at z
      omega
    have hll : ((zs.take len).map fun n => UInt8.ofNat n.toNat).length = len := by simp; omega
    refine ⟨(zs.take len).map fun n => UInt8.ofNat n.toNat, ?_, by omega⟩
    by_cases h0 : len = 0
    · subst h0
      exact .inl ⟨by simp, some x, cap, rfl, hm, fun h => by cases h⟩
    · have hx0 := hcell 0 (by omega)
      obtain ⟨b, o, sp⟩ := x
      have hsp : sp = none := by
        cases sp with
        | none => rfl
        | some s =>
          have e1 : (⟨b, o, some s⟩ : Addr).add 0 = ⟨b, o, some s⟩ := by simp [Addr.add]
          rw [e1] at hx0
          unfold World.cell? at hx0
          split at hx0 <;> simp at hx0
      subst hsp
      refine .inr ⟨b, o, cap, by rw [hll], by omega, hm, fun i hi => ?_⟩
      have hi' : i < len := by omega
      have := hcell i (by omega)
      rw [add_at] at this
      rw [this]
      obtain ⟨y, hy⟩ := wf_u8 (hwz (zs.getD i 0) (by
        rw [List.getD_eq_getElem?_getD, List.getElem?_eq_getElem (by omega)]; exact List.getElem_mem _))
      have : ((zs.take len).map fun n => UInt8.ofNat n.toNat).getD i 0 = y := by
        simp only [List.getD_eq_getElem?_getD, List.getElem?_map, List.getElem?_take_of_lt hi']
        rw [List.getD_eq_getElem?_getD, List.getElem?_eq_getElem (by omega)] at hy
        rw [List.getElem?_eq_getElem (by omega)]
        simp only [Option.getD_some, Option.map_some] at hy ⊢
        rw [hy]; simp
      rw [this, hy]
/-- An array of whole numbers that came in. -/
theorem open_int_array {n : Nat} {t e : TypeId} {k : IntKind} {v : Value} {d : DataW H} {ps : List MemPlace} {r : Reach} {b0 : Nat}
    (hu : P.underlying t = some (.array n e)) (he : P.underlying e = some (.int k)) (hc : P.cellsOf e = 1) (hn : P.cellsOf t = n)
    (hv : Value.okWide P W r b0 t v) (h : DataW.Trod enc P W base spare held t v d ps) : ∃ zs : List Int, v = .agg (zs.map (Value.int k)).toArray ∧ zs.length = n ∧ ∀ z ∈ zs, (Lit.int k z).wf = true := by
  have hagg : ∃ cs, v = .agg cs ∧ cs.size = n := by
    unfold Value.okWide at hv
    rw [hu] at hv
    obtain ⟨cs, h1, h2, _⟩ := hv
    exact ⟨cs, h1, by rw [h2, hn]⟩
  obtain ⟨cs, rfl, hcs⟩ := hagg
  obtain ⟨fuel, hf⟩ := h
  obtain ⟨xs, m, _, _, hl, hxl, hg⟩ := DataW.trod_array hu hf
  have each : ∀ i, i < n → ∃ z, cs.toList[i]? = some (Value.int k z) ∧ (Lit.int k z).wf = true := fun i hi => by
    have h1 := hg i hi
    rw [hc, Nat.mul_one] at h1
    have hi' : i < cs.toList.length := by simpa [hcs] using hi
    have h2 : ((Value.agg cs).cells.toList.drop i).take 1 = [cs.toList[i]] := by
      simp only [Value.cells]
      rw [List.drop_eq_getElem_cons hi']; rfl
    rw [h2, List.getElem?_eq_getElem (by omega)] at h1
    obtain ⟨z, hz, _, hw⟩ := DataW.trod_int he h1
    simp at hz
    exact ⟨z, by rw [List.getElem?_eq_getElem hi']; simpa using hz, hw⟩
  let f : Value → Int := fun u => match u with | .int _ z => z | _ => 0
  have hall : cs.toList = (cs.toList.map f).map (Value.int k) := by
    apply List.ext_getElem?
    intro i
    by_cases hi : i < n
    · obtain ⟨z, hz, _⟩ := each i hi
      simp only [List.getElem?_map, hz, Option.map_some]; rfl
    · rw [List.getElem?_eq_none (by simpa [hcs] using hi), List.getElem?_eq_none (by simpa [hcs] using hi)]
  refine ⟨cs.toList.map f, ?_, by simpa using hcs, fun z hz => ?_⟩
  · rw [← hall]
  · obtain ⟨u, hu', rfl⟩ := List.mem_map.1 hz
    obtain ⟨i, hi, rfl⟩ := List.getElem_of_mem hu'
    obtain ⟨z, hz', hw⟩ := each i (by simpa [hcs] using hi)
    rw [List.getElem?_eq_getElem hi] at hz'
    rw [Option.some.inj hz']
    exact hw
end
end Go.Proofs.Ytiehfaiadhhndaa
