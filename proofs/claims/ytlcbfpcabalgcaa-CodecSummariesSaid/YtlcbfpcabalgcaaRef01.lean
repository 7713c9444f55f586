/-
  The contracts of the reference's plain functions on bytes: Low, Num, Get, Copy, Equal, Put.
-/
import Derived.Test.YtlcbfpcabalgcaaNum
import Derived.Deep.QuietTactic
import Derived.BigQuiet
namespace Go.Proofs.Ytlcbfpcabalgcaa
open Go.RowKit
set_option linter.unusedVariables false

theorem u64_nat (n : Nat) (h : n < 2 ^ 64) : IntKind.u64.wrap (n : Int) = (n : Int) := by simp [IntKind.wrap, IntKind.signed, IntKind.bits]; omega
theorem u8_of_rem (q : Nat) : ((q : Int)) % 256 = ((UInt8.ofNat (q % 256)).toNat : Int) := by simp
set_option maxHeartbeats 400000 in
theorem low_any (x k : Nat) (w : World) (hx : x < 2 ^ 64) (hk : k ≤ 8) :
    Calls Try.prog 56 #[.int .u64 x, .int .i64 k] w (RetB 5 w (le k x)) := by
  go_enter Try.func56, Try.ntmps56
  go_wp2
  go_loopw [0, 5, 6] (fun n v i wr => ∃ j q : Nat, j ≤ k ∧ i = .int .i64 j ∧ n = .int .u64 (q : Int) ∧ Hid (q = x / 256 ^ j) ∧ wr.ownsRow w.heap.size 5 1 v j (bvs (le j x)) ∧ Below w.heap.size w wr) (fun _ _ i _ => (k - (intOf i)).toNat)
  case atStart => exact ⟨0, x, by omega, by rfl, by simp, by unfold Hid; simp, World.ownsRow_nil _ _ _ _, Below.refl _ _⟩
  case round =>
    obtain ⟨j, q, hj, rfl, rfl, HQ, hown, hbel⟩ := hrel
    have hb : q < 2 ^ 64 := by rw [HQ.out]; exact Nat.lt_of_le_of_lt (Nat.div_le_self _ _) hx
    have HB : Hid ((q : Int) < 18446744073709551616) := by unfold Hid; omega
    have hsz := hbel.size
    clear hb hx
    by_cases hlt : j < k
    · have hrd := rd_one (heap_alloc_new wr (.cells #[.int .u8 ((q : Int) % 256)] 5 (0, 0))) 1
      have hbel2 := hbel.alloc hsz (.cells #[.int .u8 ((q : Int) % 256)] 5 (0, 0))
      go_wp2_with (at_builtin; refine wpList_append_rd _ rfl _ _ 26 rfl w.heap.size 5 (.int .u8 0) 1 1 Try.underlying26 infoU8 rfl (by decide) _ _ _ rfl (hown.alloc _) _ 1 [.int .u8 ((q : Int) % 256)] rfl hrd ?c1 ?c2 (by decide) ?c3 ?_; (case c1 => intro u hu; simp at hu; subst hu; rfl); (case c2 => omega); (case c3 => simp; omega); intro v' w1 hown1 hbel1 hg1; clear hrd)
      have hb2 := HB.out
      go_wp2
      go_roundw
      case rel =>
        refine ⟨j + 1, q / 256, by omega, by go_num, ?_, ?_, ?_, hbel2.trans hbel1⟩
        · rw [show ((q : Int) / 256) = ((q / 256 : Nat) : Int) by simp, u64_nat _ (by omega)]
        · unfold Hid; rw [HQ.out, Nat.pow_succ, Nat.div_div_eq_div_mul]
        · rw [le_snoc, bvs_append, ← HQ.out]
          rw [u8_of_rem] at hown1
          exact hown1
      case measure => simp [intOf]; omega
    · go_wp2
      obtain rfl : j = k := by omega
      go_ret
      exact ⟨_, rfl, by simpa using hown, hbel⟩
/-! ### Num -/
theorem num_step (l : List UInt8) (j : Nat) (hj : j < l.length) (h8 : l.length ≤ 8) :
    IntKind.u64.wrap (IntKind.u64.wrap (256 * ((leNat (l.drop (j + 1)) : Nat) : Int)) + IntKind.u64.wrap ((l.getD j 0).toNat : Int)) = ((leNat (l.drop j) : Nat) : Int) := by
  have h1 : leNat (l.drop j) = (l.getD j 0).toNat + 256 * leNat (l.drop (j + 1)) := by
    rw [List.drop_eq_getElem_cons hj, leNat]; simp [List.getElem?_eq_getElem hj]
  have h2 : leNat (l.drop j) < 2 ^ 64 := by
    refine Nat.lt_of_lt_of_le (leNat_lt _) ?_
    calc 256 ^ (l.drop j).length ≤ 256 ^ 8 := Nat.pow_le_pow_right (by decide) (by simp; omega)
      _ = 2 ^ 64 := by decide
  have h3 : (l.getD j 0).toNat < 256 := UInt8.toNat_lt _
  rw [h1] at h2 ⊢
  rw [show (256 * ((leNat (l.drop (j + 1)) : Nat) : Int)) = ((256 * leNat (l.drop (j + 1)) : Nat) : Int) by simp, u64_nat _ (by omega), u64_nat _ (by omega), ← Int.natCast_add, u64_nat _ (by omega)]
  congr 1; omega
set_option maxHeartbeats 400000 in
theorem rnum_some (b o c : Nat) (l : List UInt8) (w : World) (h8 : l.length ≤ 8) (hc : RdB w b o l) :
    Calls Try.prog 60 #[.slice (some ⟨b, o, none⟩) l.length c] w fun e w' => e = .returned (.int .u64 (leNat l)) ∧ w = w' := by
  have HC := Lib.hid hc; clear hc
  go_enter Try.func60, Try.ntmps60
  go_wp2
  go_loop [3, 4] (fun n i => ∃ j q : Nat, j ≤ l.length ∧ i = .int .i64 ((j : Int) - 1) ∧ n = .int .u64 (q : Int) ∧ Hid (q = leNat (l.drop j))) (fun _ i => (intOf i + 1).toNat)
  case atStart => exact ⟨l.length, 0, by omega, by rfl, by rfl, by unfold Hid; simp [leNat]⟩
  case round =>
    obtain ⟨j, q, hj, rfl, rfl, HQ⟩ := hrel
    by_cases hlt : 0 < j
    · obtain ⟨i, rfl⟩ : ∃ i, j = i + 1 := ⟨j - 1, by omega⟩
      have hcell := HC.out i (by omega)
      have hstep := num_step l i (by omega) h8
      rw [← HQ.out] at hstep
      have HS := Lib.hid hstep; clear hstep
      have e1 : ((i + 1 : Nat) : Int) - 1 = (i : Int) := by omega
      rw [e1]
      clear e1
      go_wp2
      go_round
      case rel => exact ⟨i, leNat (l.drop i), by omega, by rfl, by rw [← HS.out]; simp, rfl⟩
      case measure => simp [intOf]
    · obtain rfl : j = 0 := by omega
      go_wp2
      go_ret
      exact ⟨by simp only [HQ.out]; rfl, rfl⟩
theorem rnum_any (v : Value) (l : List UInt8) (w : World) (h8 : l.length ≤ 8) (hv : Byt w v l) (hne : l ≠ []) :
    Calls Try.prog 60 #[v] w fun e w' => e = .returned (.int .u64 (leNat l)) ∧ w = w' := by
  rcases hv with ⟨rfl, _⟩ | ⟨b, o, c, rfl, _, _, hr⟩
  · exact absurd rfl hne
  · exact rnum_some b o c l w h8 hr
/-! ### Put -/
/-- What a function comes to that hands back bytes of its own and an error's number. -/
def RetB2 (E : TypeId) (w : World) (l : List UInt8) (n : Int) (e : Ending) (w' : World) : Prop := ∃ v, e = .returned (.tuple #[v, .int .i64 n]) ∧ w'.ownsRow w.heap.size E 1 v l.length (bvs l) ∧ Below w.heap.size w w'
theorem putOk_has (n : Nat) (at_ width : Int) (x : Nat) (hf : fitsB n at_ width = true) : hasB width x = putOk n at_ width x := by
  obtain ⟨h1, h2, _, _⟩ := (fitsB_iff _ _ _).1 hf
  unfold hasB putOk
  rw [hf, decide_eq_true (show 1 ≤ width ∧ width ≤ 8 from ⟨h1, h2⟩)]
end Go.Proofs.Ytlcbfpcabalgcaa
