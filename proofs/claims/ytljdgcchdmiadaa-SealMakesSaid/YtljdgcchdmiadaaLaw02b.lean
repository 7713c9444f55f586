/-
  The walks of law 2's statements.
-/
import Derived.Test.YtljdgcchdmiadaaLaw02
namespace Go.Proofs.Ytljdgcchdmiadaa
open Go.RowKit
set_option linter.unusedVariables false
set_option linter.unusedSimpArgs false
theorem byt_form {w : World} {v : Value} {l : List UInt8} (h : Byt w v l) : ∃ A c, v = .slice A l.length c := by
  rcases h with ⟨h', A, c, h, _⟩ | ⟨b, o, c, h, _⟩
  · exact ⟨A, c, by rw [h, h']; rfl⟩
  · exact ⟨_, c, h⟩
theorem byt_cut {w : World} {A : Option Addr} {l : List UInt8} {c n : Nat} (h : Byt w (.slice A l.length c) l) (hn : n < l.length) : n ≤ c ∧ Byt w (.slice A n c) (l.take n) := by
  rcases h with ⟨h', _⟩ | ⟨b, o, c', he, h2, h3, h4⟩
  · rw [h'] at hn; simp at hn
  · injection he with e1 e2 e3; subst e1; subst e3
    exact ⟨by omega, byt_take h4 h2 h3 n (by omega)⟩
set_option maxHeartbeats 1000000 in
set_option maxRecDepth 10000 in
theorem sealSums_walk (v : Value) (l : List UInt8) (w : World) (hn : l.length ≤ 140737488351232) (hv : Byt w v l) :
    Calls Try.prog 3 #[v] w fun e w' => e = .returned (.bool true) ∧ Below w.heap.size w w' := by
  obtain ⟨A, c, rfl⟩ := byt_form hv
  have HV := Lib.hid hv
  clear hv
  go_enter Try.func3, Try.ntmps3
  go_upto_if 7 with (go_at_call 8; refine (awake02 _).mono ?_; rintro e w1 ⟨rfl, hb1⟩)
  have HV1 := Lib.hid (HV.out.below hb1)
  have HB1 := Lib.hid hb1
  clear hb1 HV
  go_cut [0] (fun v wc => ∃ l', l'.length ≤ 140737488351232 ∧ Byt w1 v l' ∧ w1 = wc)
  case first =>
    by_cases hlen : 2000 < l.length
    · obtain ⟨hcap, hbyt⟩ := byt_cut HV1.out hlen
      have HQ := Lib.hid hbyt
      clear hbyt
      go_wp2
      go_meet
      case rel => exact ⟨_, by simp; omega, HQ.out, rfl⟩
    · go_wp2
      go_meet
      case rel => exact ⟨l, hn, HV1.out, rfl⟩
  case rest =>
  obtain ⟨l', hl', hv', rfl⟩ := hcut
  have HC := Lib.hid (crc_any _ l' w1 (by omega) hv')
  have HC2 := Lib.hid (rcrc_any _ l' w1 (by omega) hv')
  obtain ⟨cc, hcc⟩ : ∃ cc, cc = crc l' := ⟨_, rfl⟩
  rw [← hcc] at HC HC2
  clear hv' HV1 hcc
  go_wp2_with (first
    | (go_at_call 9; refine HC.out.mono ?_; rintro e w2 ⟨rfl, rfl⟩)
    | (go_at_call 10; refine HC2.out.mono ?_; rintro e w2 ⟨rfl, rfl⟩))
  go_ret
  exact ⟨by simp, HB1.out⟩
end Go.Proofs.Ytljdgcchdmiadaa
