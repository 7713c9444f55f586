/-
  Codec: the reference's Opened.
-/
import Derived.Test.YtlcbfpcabalgcaaCodJ
import Derived.Test.YtlcbfpcabalgcaaSealQ
namespace Go.Proofs.Ytlcbfpcabalgcaa
open Go.RowKit
set_option linter.unusedVariables false
set_option linter.unusedSimpArgs false
set_option linter.unnecessarySimpa false
/-- Numbers of these widths, from a place on. -/
def vals : List Nat → List UInt8 → Nat → List Nat
  | [], _, _ => []
  | w :: r, l, a => part l a w :: vals r l (a + w)
theorem vals_snoc (ws : List Nat) (l : List UInt8) : ∀ (a i : Nat) (w : Nat), ws[i]? = some w → vals (ws.take (i + 1)) l a = vals (ws.take i) l a ++ [part l (a + (ws.take i).sum) w] := by
  induction ws with
  | nil => intro a i w h; simp at h
  | cons x r ih =>
    intro a i w h
    cases i with
    | zero => simp at h; subst h; simp [vals]
    | succ i =>
      have := ih (a + x) i w (by simpa using h)
      simp only [List.take_succ_cons, vals, this, List.sum_cons, List.cons_append]
      rw [Nat.add_assoc]
theorem vals_len (ws : List Nat) (l : List UInt8) : ∀ a, (vals ws l a).length = ws.length := by
  induction ws with
  | nil => intro a; rfl
  | cons x r ih => intro a; simp [vals, ih]
theorem sum_snoc (ws : List Nat) (i w : Nat) (h : ws[i]? = some w) : (ws.take (i + 1)).sum = (ws.take i).sum + w := by
  obtain ⟨hi, rfl⟩ := List.getElem?_eq_some_iff.1 h
  rw [List.take_succ_eq_append_getElem hi, List.sum_append]; simp
/-- So many times all of them. -/
def recs (ws : List Nat) (l : List UInt8) : Nat → List Nat
  | 0 => []
  | j + 1 => recs ws l j ++ vals ws l (j * ws.sum)
theorem recs_len (ws : List Nat) (l : List UInt8) (j : Nat) : (recs ws l j).length = j * ws.length := by
  induction j with
  | zero => simp [recs]
  | succ j ih => rw [recs, List.length_append, ih, vals_len, Nat.add_mul, Nat.one_mul]
def i64s (l : List Nat) : List Value := l.map fun (n : Nat) => Value.int .i64 (n : Int)
theorem i64s_append (a b : List Nat) : i64s (a ++ b) = i64s a ++ i64s b := by simp [i64s]
theorem i64s_one (l : List Nat) : ∀ u ∈ i64s l, u.oneCell' = true := by intro u hu; simp [i64s] at hu; obtain ⟨n, _, rfl⟩ := hu; rfl
def numF (n : Nat) : List Value := [.int .i64 (n : Int)]
theorem numF_len (n : Nat) : (numF n).length = 1 := rfl
theorem infoI64 : (Try.prog.info? 2).map (fun i => (i.zero, i.size, i.bytes)) = some (some (.int .i64 0), 1, 8) := by kernel_rfl
/-- What the reference's Opened comes to. -/
def OdTo (w : World) (ok : Bool) (ns : List Nat) (e : Ending) (w' : World) : Prop :=
  ∃ v, e = .returned (.tuple #[v, .bool ok]) ∧ w'.ownsRow w.heap.size 2 1 v (if ok then ns else []).length (i64s (if ok then ns else [])) ∧ Below w.heap.size w w'
theorem odTo_no {w w' : World} {ok : Bool} {ns : List Nat} {e : Ending} (h : ok = false) (he : e = .returned (.tuple #[.slice none 0 0, .bool false])) (hb : Below w.heap.size w w') : OdTo w ok ns e w' := by
  subst h; exact ⟨_, he, own_nil _ _ _, hb⟩
theorem odTo_yes {w w' : World} {ok : Bool} {ns : List Nat} {e : Ending} {v : Value} (h : ok = true) (he : e = .returned (.tuple #[v, .bool true])) (ho : w'.ownsRow w.heap.size 2 1 v ns.length (i64s ns)) (hb : Below w.heap.size w w') : OdTo w ok ns e w' := by
  subst h; exact ⟨_, he, ho, hb⟩
def odOk (kind : UInt8) (l : List UInt8) (ws : List Nat) : Bool := (openB l && decide (openK l = kind)) && decide ((openL l).length % ws.sum = 0)
theorem mod_ne {n R j m : Nat} (h1 : j * R < n) (h2 : n < j * R + m) (h3 : m ≤ R) : n % R ≠ 0 := by
  intro h
  have hd := Nat.div_add_mod n R
  rw [h, Nat.add_zero] at hd
  have h4 : j < n / R := by
    rcases Nat.lt_or_ge j (n / R) with h4 | h4
    · exact h4
    · have := Nat.mul_le_mul_left R h4; rw [hd, Nat.mul_comm] at this; omega
  have h5 : R * (j + 1) ≤ R * (n / R) := Nat.mul_le_mul_left R h4
  rw [hd, Nat.mul_add, Nat.mul_one, Nat.mul_comm] at h5
  omega
theorem take_sum_le (ws : List Nat) (i : Nat) : (ws.take i).sum ≤ ws.sum := by
  induction ws generalizing i with
  | nil => simp
  | cons x r ih => cases i with
    | zero => simp
    | succ i => have := ih i; simp; omega
theorem len_le_sum (ws : List Nat) (h : ∀ x ∈ ws, 1 ≤ x) : ws.length ≤ ws.sum := by
  induction ws with
  | nil => simp
  | cons x r ih =>
    have h1 := h x List.mem_cons_self
    have h2 := ih (fun y hy => h y (List.mem_cons_of_mem _ hy))
    simp; omega
set_option maxRecDepth 10000 in
set_option maxHeartbeats 8000000 in
theorem ropened_any (kind : UInt8) (l : List UInt8) (ws : List Nat) (v2 : Value) (w : World) (hl : l.length = 128) (h2 : RowsAt w (fun _ => False) numF 1 v2 ws) (hws : ∀ x ∈ ws, 1 ≤ x ∧ x ≤ 4) (hw0 : ws ≠ []) (hwl : ws.length ≤ 20) :
    Calls Try.prog 52 #[.int .u8 (kind.toNat : Int), secV l, v2] w (OdTo w (odOk kind l ws) (recs ws (openL l) ((openL l).length / ws.sum))) := by
  have HL := Lib.hid hl
  have HWS := Lib.hid hws
  have hsum : 1 ≤ ws.sum := by
    cases ws with
    | nil => exact absurd rfl hw0
    | cons x r => have := (hws x List.mem_cons_self).1; simp; omega
  have HSZ : Hid ((bvs l).toArray.size = 128) := by unfold Hid; rw [secV_size, hl]
  have HBL := Lib.hid (openL_le l)
  have hop := fun w' => ropen_any l w' hl
  obtain ⟨k, hk⟩ : ∃ k, openK l = k := ⟨_, rfl⟩
  obtain ⟨b, hb⟩ : ∃ b, openL l = b := ⟨_, rfl⟩
  obtain ⟨oe, hoe⟩ : ∃ oe, openB l = oe := ⟨_, rfl⟩
  rw [hk, hb, hoe] at hop
  rw [hb] at HBL ⊢
  have hodk : odOk kind l ws = ((oe && decide (k = kind)) && decide (b.length % ws.sum = 0)) := by unfold odOk; rw [hoe, hk, hb]
  have HODK := Lib.hid hodk
  have HOP := fun w' => Lib.hid (hop w')
  have hb1 : Below w.heap.size w (w.alloc (.cells (bvs l).toArray 28 (0, 0))) := (Below.refl _ _).alloc (Nat.le_refl _) _
  have hG1 := heap_alloc_last w (.cells (bvs l).toArray 28 (0, 0))
  have HR0 := Lib.hid h2
  have HB1 := Lib.hid hb1
  have HG1 := Lib.hid hG1
  obtain ⟨A2, c2, rfl, hc1, hc2, -, -, -⟩ := h2
  clear hop hk hb hoe hl hws hodk hb1 hG1
  unfold secV at HOP ⊢
  unfold RopTo at HOP
  unfold maxLen at hc2
  go_enter Try.func52, Try.ntmps52
  go_upto_region 2 with (first
    | (refine wpList_load_row rfl 28 (.tmp 4) rfl w.heap.size rfl _ _ _ _ HG1.out Try.underlying28 rfl (by rw [HSZ.out]; exact size_arr) ?_)
    | (go_at_call 59; refine (HOP _).out.mono ?_; rintro e w3 ⟨v, rfl, ho3, hb3⟩; obtain ⟨sp, cp, rfl⟩ := own_slice1 ho3; have HO3 := Lib.hid (own_byt ho3).1; have HB3 := Lib.hid (bnext HB1.out hb3); clear ho3 hb3))
  clear HOP HG1 HB1
  cases oe with
  | false =>
    go_wp2
    go_ret2
    exact odTo_no (by rw [HODK.out]; rfl) rfl HB3.out
  | true =>
    by_cases hk : k = kind
    · subst hk
      have hkk := kind_eq k
      have hodk : odOk k l ws = decide (b.length % ws.sum = 0) := by rw [HODK.out]; simp
      have HOD := Lib.hid hodk
      clear hodk HODK
      have HR3 := Lib.hid (HR0.out.below numF_len HB3.out)
      clear HR0
      go_wp2
      go_loopw [11, 12] (fun vo at_ wr => ∃ j : Nat, j * ws.sum ≤ b.length ∧ at_ = .int .i64 ((j * ws.sum : Nat) : Int) ∧ Hid (wr.ownsRow w3.heap.size 2 1 vo (recs ws b j).length (i64s (recs ws b j))) ∧ Hid (Below w3.heap.size w3 wr)) (fun _ at_ _ => (b.length - intOf at_).toNat)
      case atStart => exact ⟨0, by omega, by rw [Nat.zero_mul]; rfl, Lib.hid (own_nil _ _ _), Lib.hid (Below.refl _ _)⟩
      case round =>
        obtain ⟨j, hj, rfl, HO, HBB⟩ := hrel
        obtain ⟨a, ha⟩ : ∃ a, j * ws.sum = a := ⟨_, rfl⟩
        rw [ha] at hj ⊢
        have HA := Lib.hid ha
        clear ha
        have HBL2 := HBL.out
        by_cases hlt : a < b.length
        · obtain ⟨wo, rfl⟩ : ∃ wo : World, wo = wr := ⟨_, rfl⟩
          have HOO := HO
          have HBO := HBB
          clear HO HBB
          obtain ⟨so, co, rfl⟩ := own_slice1 HOO.out
          go_wp2
          go_loopw [11, 12, 13] (fun vo at_ i wr => ∃ q m : Nat, q ≤ ws.length ∧ i = .int .i64 (q : Int) ∧ at_ = .int .i64 (m : Int) ∧ m = a + (ws.take q).sum ∧ m ≤ b.length ∧ Hid (wr.ownsRow w3.heap.size 2 1 vo (recs ws b j ++ vals (ws.take q) b a).length (i64s (recs ws b j ++ vals (ws.take q) b a))) ∧ Hid (Below w3.heap.size w3 wr)) (fun _ _ i _ => (ws.length - intOf i).toNat)
          case atStart => exact ⟨0, a, by omega, rfl, rfl, by simp, hj, Lib.hid (by simpa [vals] using HOO.out), HBO⟩
          case round =>
            obtain ⟨q, m, hq, rfl, rfl, hm, hmb, HO, HBB⟩ := hrel
            obtain ⟨O, hO⟩ : ∃ O, recs ws b j ++ vals (ws.take q) b a = O := ⟨_, rfl⟩
            rw [hO] at HO
            have HOE := Lib.hid hO
            clear hO
            obtain ⟨s1, c1, rfl⟩ := own_slice1 HO.out
            have HM := Lib.hid hm
            clear hm
            by_cases hqt : q < ws.length
            · obtain ⟨x, hx⟩ : ∃ x, ws[q]? = some x := ⟨_, List.getElem?_eq_getElem hqt⟩
              have HX := Lib.hid hx
              have hx1 := HWS.out x (List.mem_of_getElem? hx)
              obtain ⟨A3, c3, e3, -, -, -, hra, hrb⟩ := HR3.out
              injection e3 with e3 e4 e5
              subst e3; subst e5
              obtain ⟨pb, po, rfl, hrr⟩ := rows_at numF_len hra hx
              have cx3 : w3.cell? ⟨pb, po + q, none⟩ = some (.int .i64 (x : Int)) := by have := hrr 0 _ rfl; simpa using this
              have hpl := (hrb _ rfl).1
              dsimp only at hpl
              have cx : wr.cell? ⟨pb, po + q, none⟩ = some (.int .i64 (x : Int)) := (HBB.out.cell (p := ⟨pb, po + q, none⟩) hpl).trans cx3
              have HCX := Lib.hid cx3
              clear hra hrb hrr hx e4 cx3
              by_cases hfit : m + x ≤ b.length
              · go_upto_region 12 with fail
                have hsp : ∃ bb o2, sp = some ⟨bb, o2, none⟩ ∧ b.length ≤ cp ∧ cp ≤ maxLen ∧ RdB wr bb o2 b := by
                  rcases HO3.out.below HBB.out with ⟨h', _⟩ | ⟨bb, o2, c', he, h2, h3, h4⟩
                  · rw [h'] at hlt; simp at hlt
                  · injection he with e1 e2 e3; subst e1; subst e3
                    exact ⟨bb, o2, rfl, h2, h3, h4⟩
                obtain ⟨bb, o2, rfl, hcp, hcm, hrd⟩ := hsp
                unfold maxLen at hcm
                have hcne : ¬ cp = m := by omega
                have hxl : ((b.drop m).take x).length = x := by simp; omega
                have hnum := rnum_some bb (o2 + m) (cp - m) ((b.drop m).take x) wr (by omega) (hrd.sub m x hfit)
                rw [hxl] at hnum
                obtain ⟨n, hn⟩ : ∃ n, part b m x = n := ⟨_, rfl⟩
                have hn2 : leNat ((b.drop m).take x) = n := hn
                have hn4 : n < 256 ^ 4 := by rw [← hn]; exact Nat.lt_of_lt_of_le (part_lt b m x) (Nat.pow_le_pow_right (by decide) hx1.2)
                have hnw : IntKind.i64.wrap (n : Int) = (n : Int) := IntWalk.i64_in _ (by omega)
                rw [hn2] at hnum
                have HNUM := Lib.hid hnum
                have HN := Lib.hid hn
                have hll : O.length ≤ 300 := by
                  rw [← HOE.out, List.length_append, recs_len, vals_len]
                  have h1 : (ws.take q).length ≤ ws.length := List.length_take_le' _ _
                  have h2 := len_le_sum ws (fun x hx => (HWS.out x hx).1)
                  have h3 := Nat.mul_le_mul_left j h2
                  have := HA.out
                  omega
                have hoa := HO.out.alloc (.cells #[.int .i64 (n : Int)] 2 (0, 0))
                have hba := HBB.out.alloc HBB.out.size (.cells #[.int .i64 (n : Int)] 2 (0, 0))
                have hrd1 := rd_one (heap_alloc_new wr (.cells #[.int .i64 (n : Int)] 2 (0, 0))) 1
                have HOA := Lib.hid hoa
                have HBA := Lib.hid hba
                have HR1 := Lib.hid hrd1
                clear hrd hxl hnum hn hn2 hoa hba hrd1
                go_upto_region 13 with (first
                  | (go_at_call 60; (with_reducible refine HNUM.out.mono ?_); rintro e wq ⟨rfl, rfl⟩)
                  | (at_builtin; go_must (refine wpList_append_rd _ rfl (.tmp 46) (.tmp 58) 123 rfl w3.heap.size 2 (.int .i64 0) 1 8 Try.underlying123 infoI64 rfl (by decide) _ _ _ rfl HOA.out _ 1 [.int .i64 (n : Int)] rfl HR1.out ?c1 ?c2 (by decide) HBA.out.size ?_; (case c1 => intro u hu; simp at hu; subst hu; rfl); (case c2 => omega); intro v5 w5 hown5 hbel5 hg5; have HO5 := Lib.hid hown5; have HB5 := Lib.hid (HBA.out.trans hbel5); clear hown5 hbel5 hg5)))
                have cx5 : w5.cell? ⟨pb, po + q, none⟩ = some (.int .i64 (x : Int)) := (HB5.out.cell (p := ⟨pb, po + q, none⟩) hpl).trans HCX.out
                have hsn := vals_snoc ws b a q x HX.out
                have hss := sum_snoc ws q x HX.out
                have HO6 : Hid (w5.ownsRow w3.heap.size 2 1 v5 (recs ws b j ++ vals (ws.take (q + 1)) b a).length (i64s (recs ws b j ++ vals (ws.take (q + 1)) b a))) := Lib.hid (by
                  rw [hsn, ← HM.out, HN.out, ← List.append_assoc, HOE.out, i64s_append, List.length_append]
                  exact HO5.out)
                have HM6 := Lib.hid (show m + x = a + (ws.take (q + 1)).sum by rw [hss, HM.out]; omega)
                clear hsn hss HO5
                go_wp2
                go_roundw
                case rel => exact ⟨q + 1, m + x, by omega, by go_num, by go_num, HM6.out, hfit, HO6, HB5⟩
                case measure => simp [intOf]; omega
              · have hod2 : odOk k l ws = false := by
                  rw [HOD.out, decide_eq_false_iff_not]
                  have hs1 := sum_snoc ws q x HX.out
                  have hs2 := take_sum_le ws (q + 1)
                  have hM := HM.out
                  have hA := HA.out
                  exact mod_ne (j := j) (m := (ws.take (q + 1)).sum) (by omega) (by omega) hs2
                have HOD2 := Lib.hid hod2
                clear hod2
                go_wp2
                go_ret2
                exact odTo_no HOD2.out rfl (HB3.out.trans (HBB.out.mono HB3.out.size))
            · obtain rfl : q = ws.length := by omega
              have ht : ws.take ws.length = ws := List.take_length
              have HM2 := Lib.hid HM.out
              rw [ht] at HM2
              have hO2 := HOE.out
              rw [ht] at hO2
              have HOE2 := Lib.hid hO2
              clear hO2
              have HO2 := HO
              clear HO HM
              go_wp2
              go_roundw
              case rel => exact ⟨j + 1, by rw [Nat.add_mul, HA.out, Nat.one_mul, ← HM2.out]; exact hmb, by rw [Nat.add_mul, HA.out, Nat.one_mul, ← HM2.out], Lib.hid (by have := HO2.out; rw [recs, HA.out, HOE2.out]; exact this), HBB⟩
              case measure => simp [intOf]; have := HM2.out; omega
        · have hab : a = b.length := by omega
          have HAB := Lib.hid hab
          clear hab
          have hj2 : b.length / ws.sum = j := by rw [← HAB.out, ← HA.out]; exact Nat.mul_div_cancel _ hsum
          have hod2 : odOk k l ws = true := by rw [HOD.out, decide_eq_true_iff, ← HAB.out, ← HA.out]; exact Nat.mul_mod_left _ _
          have HJ2 := Lib.hid hj2
          have HOD2 := Lib.hid hod2
          clear hj2 hod2
          obtain ⟨so, co, rfl⟩ := own_slice1 HO.out
          go_wp2
          go_ret2
          exact odTo_yes HOD2.out rfl (by rw [HJ2.out]; exact own_low HO.out HB3.out.size) (HB3.out.trans (HBB.out.mono HB3.out.size))
    · have hkk := kind_ne k kind hk
      have HK := Lib.hid hk
      clear hk
      go_wp2
      go_ret2
      exact odTo_no (by rw [HODK.out]; simp [HK.out]) rfl HB3.out
end Go.Proofs.Ytlcbfpcabalgcaa
