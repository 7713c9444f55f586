/-
  The contracts of the reference's plain functions on bytes: Low, Num, Get, Copy, Equal, Put.
-/
import Derived.Test.YtcgfhpgjaibmhaaNum
import Derived.Deep.QuietTactic
import Derived.BigQuiet
namespace Go.Proofs.Ytcgfhpgjaibmhaa
open Go.RowKit
set_option linter.unusedVariables false

theorem u64_nat (n : Nat) (h : n < 2 ^ 64) : IntKind.u64.wrap (n : Int) = (n : Int) := by simp [IntKind.wrap, IntKind.signed, IntKind.bits]; omega
theorem u8_of_rem (q : Nat) : ((q : Int)) % 256 = ((UInt8.ofNat (q % 256)).toNat : Int) := by simp
set_option maxHeartbeats 400000 in
theorem low_any (x k : Nat) (w : World) (hx : x < 2 ^ 64) (hk : k ≤ 8) :
    Calls Try.prog 29 #[.int .u64 x, .int .i64 k] w (RetB 5 w (le k x)) := by
  go_enter Try.func29, Try.ntmps29
  go_wp2
  go_loopw [0, 5, 6] (fun n v i wr => ∃ j q : Nat, j ≤ k ∧ i = .int .i64 j ∧ n = .int .u64 (q : Int) ∧ Hid (q = x / 256 ^ j) ∧ wr.ownsRow w.heap.size 5 1 v j (bvs (le j x)) ∧ Below w.heap.size w wr) (fun _ _ i _ => (k - (intOf i)).toNat)
  case atStart => exact ⟨0, x, by omega, by rfl, by simp, by unfold Hid; simp, World.ownsRow_nil _ _ _ _, Below.refl _ _⟩
  case round =>
    obtain ⟨j, q, hj, rfl, rfl, HQ, hown, hbel⟩ := hrel
    have hb : q < 2 ^ 64 := by rw [HQ.out]; exact Nat.lt_of_le_of_lt (Nat.div_le_self _ _) hx
    have HB : Hid ((q : Int) < 18446744073709551616) := by unfold Hid; omega
    have hsz := hbel.size
    clear hb hx
    by_cases hlt : j < k
    · have hrd := rd_one (heap_alloc_new wr (.cells #[.int .u8 ((q : Int) % 256)] 5 (0, 0))) 1
      have hbel2 := hbel.alloc hsz (.cells #[.int .u8 ((q : Int) % 256)] 5 (0, 0))
      go_wp2_with (at_builtin; refine wpList_append_rd _ rfl _ _ 45 rfl w.heap.size 5 (.int .u8 0) 1 1 Try.underlying45 infoU8 rfl (by decide) _ _ _ rfl (hown.alloc _) _ 1 [.int .u8 ((q : Int) % 256)] rfl hrd ?c1 ?c2 (by decide) ?c3 ?_; (case c1 => intro u hu; simp at hu; subst hu; rfl); (case c2 => omega); (case c3 => simp; omega); intro v' w1 hown1 hbel1 hg1; clear hrd)
      have hb2 := HB.out
      go_wp2
      go_roundw
      case rel =>
        refine ⟨j + 1, q / 256, by omega, by go_num, ?_, ?_, ?_, hbel2.trans hbel1⟩
        · rw [show ((q : Int) / 256) = ((q / 256 : Nat) : Int) by simp, u64_nat _ (by omega)]
        · unfold Hid; rw [HQ.out, Nat.pow_succ, Nat.div_div_eq_div_mul]
        · rw [le_snoc, bvs_append, ← HQ.out]
          rw [u8_of_rem] at hown1
          exact hown1
      case measure => simp [intOf]; omega
    · go_wp2
      obtain rfl : j = k := by omega
      go_ret
      exact ⟨_, rfl, by simpa using hown, hbel⟩
/-! ### Put -/
/-- What a function comes to that hands back bytes of its own and an error's number. -/
def RetB2 (E : TypeId) (w : World) (l : List UInt8) (n : Int) (e : Ending) (w' : World) : Prop := ∃ v, e = .returned (.tuple #[v, .int .i64 n]) ∧ w'.ownsRow w.heap.size E 1 v l.length (bvs l) ∧ Below w.heap.size w w'
theorem putOk_has (n : Nat) (at_ width : Int) (x : Nat) (hf : fitsB n at_ width = true) : hasB width x = putOk n at_ width x := by
  obtain ⟨h1, h2, _, _⟩ := (fitsB_iff _ _ _).1 hf
  unfold hasB putOk
  rw [hf, decide_eq_true (show 1 ≤ width ∧ width ≤ 8 from ⟨h1, h2⟩)]
end Go.Proofs.Ytcgfhpgjaibmhaa
