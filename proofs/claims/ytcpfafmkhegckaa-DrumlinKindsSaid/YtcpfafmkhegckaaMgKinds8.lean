/-
  Codec: lists of uses.
-/
import Derived.Test.YtcpfafmkhegckaaMgKinds6
import Derived.Test.YtcpfafmkhegckaaMgKinds4
import Derived.Test.YtcpfafmkhegckaaMgKinds7
import Derived.Test.YtcpfafmkhegckaaMgKinds5
import Derived.Laws.EntriesVeiled
namespace Go.Proofs.Ytcpfafmkhegckaa
open Go.RowKit
set_option linter.unusedVariables false
set_option linter.unusedSimpArgs false
set_option linter.unnecessarySimpa false
structure Usr where
  live : Int
  state : Int
  age : Nat
structure Usr.Ok (x : Usr) : Prop where
  live : I64 x.live
  state : I64 x.state
  age : x.age < 2 ^ 32
def Usr.cells (x : Usr) : List Value := [.int .i64 x.live, .int .i64 x.state, .int .u32 (x.age : Int)]
theorem Usr.cells_len (x : Usr) : x.cells.length = 3 := rfl
theorem Usr.cells_one (x : Usr) : ∀ u ∈ x.cells, u.oneCell' = true := by
  intro u hu
  simp only [Usr.cells, List.mem_cons, List.not_mem_nil, or_false] at hu
  rcases hu with rfl | rfl | rfl <;> rfl
def useL (x : Usr) : List (Nat × Int) := [(2, x.live), (1, x.state), (4, (x.age : Int))]
def useAll (L : List Usr) : List (Nat × Int) := L.flatMap useL
theorem useAll_snoc (L : List Usr) (k : Nat) (x : Usr) (h : L[k]? = some x) : useAll (L.take (k + 1)) = useAll (L.take k) ++ useL x := by
  obtain ⟨hk, rfl⟩ := List.getElem?_eq_some_iff.1 h
  unfold useAll
  rw [List.take_succ_eq_append_getElem hk, List.flatMap_append]; simp
theorem useAll_len (L : List Usr) : (fB (useAll L)).length = 7 * L.length := by
  induction L with
  | nil => rfl
  | cons x r ih =>
    have h1 : useAll (x :: r) = useL x ++ useAll r := by simp [useAll]
    rw [h1, fB_append, List.length_append, ih, fB_len, List.length_cons]
    have h2 : ((useL x).map (·.1)).sum = 7 := rfl
    rw [h2]; omega
def ruse (l : List UInt8) (a : Nat) : Usr := ⟨(rN l a 2 : Int), (rN l (a + 2) 1 : Int), rN l ((a + 2) + 1) 4⟩
theorem ruse_ok (l : List UInt8) (a : Nat) : (ruse l a).Ok := by
  have h := fun a k (hk : k ≤ 4) => Nat.lt_of_lt_of_le (rN_lt l a k) (Nat.pow_le_pow_right (n := 256) (by decide) hk)
  have hi : ∀ a k, k ≤ 4 → I64 (rN l a k : Int) := fun a k hk => by have := h a k hk; exact ⟨by omega, by omega⟩
  exact ⟨hi _ _ (by decide), hi _ _ (by decide), h _ _ (by decide)⟩
theorem infoUse3 : (Try.prog.info? 167).map (fun i => (i.zero, i.size, i.bytes)) = some (some (.agg #[.int .i64 0, .int .i64 0, .int .u32 0]), 3, 24) := by kernel_rfl
theorem use_bad (l : List UInt8) (a : Nat) : ((((decide (l.length < a)) || !rOk l a 2) || !rOk l (a + 2) 1) || !rOk l ((a + 2) + 1) 4) = decide (l.length < a + 7) := by
  rw [bad_next l _ 2 (by decide), bad_next l _ 1 (by decide), bad_next l _ 4 (by decide)]
/-- One of them, when it writes. -/
theorem pw_use' {w : World} {base g : Nat} {l : List UInt8} {bad : Bool} (x : Usr) (hx : x.Ok) (pb po : Nat) (h : CwAt w base g l bad) (hr : w.rangeAt pb po x.cells) (hl : l.length ≤ 90000) (hbs : base ≤ w.heap.size) (hpb : pb < base) :
    Calls Try.prog 141 #[wV g, .pointer (some ⟨pb, po, none⟩)] w (CwTo w base g (l ++ fB (useL x)) (bad || fBad (useL x))) :=
  pw_use x.live x.state x.age pb po h (hr 0 _ rfl) (hr 1 _ rfl) (hr 2 _ rfl) hx.live hx.state hx.age hl hbs hpb
/-- One of them, when it reads. -/
theorem pr_use' {w : World} {g a pb : Nat} {v : Value} {l : List UInt8} {bad : Bool} (h : CrAt w g v l a bad) (hbad : bad = decide (l.length < a)) (ha : a ≤ 900) (hl : l.length ≤ 1000) (hb : w.heap[pb]? = some (.cells #[.int .i64 0, .int .i64 0, .int .u32 0] 167 (0, 0))) (hpg : pb ≠ g) (hv : Apart (· = pb) v l) :
    Calls Try.prog 141 #[rV g, .pointer (some ⟨pb, 0, none⟩)] w fun e w' => e = .returned (.tuple #[]) ∧ CrPass w g v l (a + 7) (decide (l.length < a + 7)) pb (ruse l a).cells.toArray 167 w' := by
  refine (pr_use pb 0 _ 167 0 0 0 h ha hl hb rfl rfl rfl hpg hv).mono fun e w' ⟨h1, h2⟩ => ⟨h1, ?_⟩
  rw [hbad, use_bad] at h2
  exact h2
set_option maxRecDepth 10000 in
set_option maxHeartbeats 8000000 in
theorem lw_use {w : World} {base g : Nat} {l : List UInt8} {bad : Bool} (L : List Usr) (A : Option Addr) (c : Nat) (pb po : Nat) (h : CwAt w base g l bad) (hc : w.cell? ⟨pb, po, none⟩ = some (.slice A L.length c)) (hR : ReadAt w A Usr.cells 3 L)
    (hA : ∀ a, A = some a → a.block < base) (hpb : pb < base) (hok : ∀ x ∈ L, x.Ok) (hl : l.length ≤ 1000) (hL : L.length ≤ 1000) (hbs : base ≤ w.heap.size) :
    Calls Try.prog 140 #[wV g, .pointer (some ⟨pb, po, none⟩), .func (.func 141) #[] #[]] w (CwTo w base g (l ++ fB (useAll L)) (bad || fBad (useAll L))) := by
  have HW := Lib.hid (show CwAt w base g (l ++ fB (useAll (L.take 0))) (bad || fBad (useAll (L.take 0))) by simpa [useAll, fB, fBad] using h)
  have HC := Lib.hid hc
  have HR := Lib.hid hR
  have HA := Lib.hid hA
  have HOK := Lib.hid hok
  have na_more := fun W => na_w ⟨g, 0, none⟩ W "drumlin/codec.more" (by simp)
  have mt_more := fun W => mw_more ⟨g, 0, none⟩ W
  clear h hR hA hok
  unfold wV
  unfold CwTo
  go_enter Try.func140, Try.ntmps140
  go_wp2
  clear hc
  go_loopw [12] (fun i wr => ∃ k : Nat, k ≤ L.length ∧ i = .int .i64 (k : Int) ∧ Hid (CwAt wr base g (l ++ fB (useAll (L.take k))) (bad || fBad (useAll (L.take k)))) ∧ Hid (Below base w wr)) (fun i _ => (L.length - intOf i).toNat)
  case atStart => exact ⟨0, by omega, rfl, HW, Lib.hid (Below.refl _ _)⟩
  case round =>
    obtain ⟨k, hk, rfl, HWk, HBk⟩ := hrel
    clear HW
    have hc := (HBk.out.cell (p := ⟨pb, po, none⟩) hpb).trans HC.out
    by_cases hlt : k < L.length
    · obtain ⟨x, hx⟩ : ∃ x, L[k]? = some x := ⟨_, List.getElem?_eq_getElem hlt⟩
      obtain ⟨b, o, rfl, hr⟩ := rows_at Usr.cells_len HR.out hx
      have hbl := HA.out _ rfl
      dsimp only at hbl
      have hr2 : wr.rangeAt b (o + k * 3) x.cells := fun j u hu => (HBk.out.cell (p := ⟨b, o + k * 3 + j, none⟩) hbl).trans (hr j u hu)
      have hlen : (l ++ fB (useAll (L.take k))).length ≤ 90000 := by
        rw [List.length_append, useAll_len]
        have : (L.take k).length ≤ k := List.length_take_le _ _
        omega
      have HP := Lib.hid (pw_use' x (HOK.out x (List.mem_of_getElem? hx)) b (o + k * 3) HWk.out hr2 hlen (Nat.le_trans hbs HBk.out.size) hbl)
      unfold wV CwTo at HP
      have HX := Lib.hid hx
      clear hr hr2 hlen hx
      go_wp2_with (go_at_call 141; go_must (refine HP.out.mono ?_; rintro e w2 ⟨rfl, hcw, hb2⟩; have HW2 := Lib.hid hcw; have HB2 := Lib.hid (HBk.out.trans hb2); clear hcw hb2))
      have HW3 : Hid (CwAt w2 base g (l ++ fB (useAll (L.take (k + 1)))) (bad || fBad (useAll (L.take (k + 1))))) := Lib.hid (by
        rw [useAll_snoc L k x HX.out, fB_append, fBad_append]
        have := HW2.out
        simpa [List.append_assoc, Bool.or_assoc] using this)
      clear HW2
      go_roundw
      case rel => exact ⟨k + 1, by omega, by go_num, HW3, HB2⟩
      case measure => simp [intOf]; omega
    · obtain rfl : k = L.length := by omega
      have ht : L.take L.length = L := List.take_length
      have hW := HWk.out
      rw [ht] at hW
      have HWL := Lib.hid hW
      clear hW ht HWk
      go_wp2
      obtain ⟨wo, rfl⟩ : ∃ wo : World, wo = wr := ⟨_, rfl⟩
      go_loopw [] (fun wr => Hid (wr = wo)) (fun _ => 0)
      case atStart => exact Lib.hid rfl
      case round =>
        have he := hrel.out
        subst he
        go_wp2_with (go_at_call 182; refine (cw_more _ _).mono ?_; rintro e wq ⟨rfl, rfl⟩)
        go_end0
        exact ⟨rfl, HWL.out, HBk.out⟩
def uses (l : List UInt8) (a J : Nat) : List Usr := (List.range J).map fun q => ruse l (a + q * 7)
theorem uses_snoc (l : List UInt8) (a J : Nat) : uses l a (J + 1) = uses l a J ++ [ruse l (a + J * 7)] := by unfold uses; rw [List.range_succ, List.map_append]; rfl
theorem uses_len (l : List UInt8) (a J : Nat) : (uses l a J).length = J := by simp [uses]
/-- What a list that was read leaves. -/
structure LrUsr (w : World) (g : Nat) (v : Value) (l : List UInt8) (a pb po : Nat) (cs : Array Value) (T : TypeId) (v' : Value) (J : Nat) (w' : World) : Prop where
  form : CrAt w' g v l (a + J * 7) (decide (l.length < a + J * 7))
  cell : w'.heap[pb]? = some (.cells (cs.setIfInBounds po v') T (0, 0))
  own : w'.ownsRow w.heap.size 167 3 v' J (rowsOf Usr.cells (uses l a J))
  keep : Keep (fun b => b = g ∨ b = pb) w w'
set_option maxRecDepth 10000 in
set_option maxHeartbeats 8000000 in
theorem lr_use {w : World} {g : Nat} {v : Value} {l : List UInt8} (a pb po : Nat) (cs : Array Value) (T : TypeId) (h : CrAt w g v l a (decide (l.length < a))) (hl : l.length ≤ 255) (ha : a ≤ 400) (hb : w.heap[pb]? = some (.cells cs T (0, 0))) (hc : cs[po]? = some (.slice none 0 0)) (hpg : pb ≠ g) (hv : Apart (· = pb) v l) :
    Calls Try.prog 140 #[rV g, .pointer (some ⟨pb, po, none⟩), .func (.func 141) #[] #[]] w fun e w' => ∃ v' J, e = .returned (.tuple #[]) ∧ LrUsr w g v l a pb po cs T v' J w' ∧ l.length ≤ a + J * 7 ∧ (J = 0 ∨ a + (J - 1) * 7 < l.length) := by
  have hgl : g < w.heap.size := (Array.getElem?_eq_some_iff.1 h.box).1
  have hpl : pb < w.heap.size := (Array.getElem?_eq_some_iff.1 hb).1
  have c0 : w.cell? ⟨pb, po, none⟩ = some (.slice none 0 0) := (cell_row hb po).trans hc
  have na_more := fun W => na_r ⟨g, 0, none⟩ W "drumlin/codec.more" (by simp)
  have mt_more := fun W => mr_more ⟨g, 0, none⟩ W
  have hst : LrUsr w g v l a pb po cs T (.slice none 0 0) 0 w := ⟨by rw [Nat.zero_mul, Nat.add_zero]; exact h, by rw [set_same cs po _ hc]; exact hb, own_nilk _ _ _ _, Keep.refl _ w⟩
  have HST := Lib.hid hst
  have HC := Lib.hid hc
  have HV := Lib.hid hv
  have HVA := Lib.hid (byt_old h.byt)
  clear h hb hst hc hv
  unfold rV
  go_enter Try.func140, Try.ntmps140
  go_wp2
  go_loopw [12] (fun i wr => i = .int .i64 0 ∧ Hid (wr = w)) (fun _ _ => 0)
  case atStart => exact ⟨rfl, Lib.hid rfl⟩
  case round =>
    obtain ⟨rfl, he⟩ := hrel
    have he := he.out
    subst he
    go_wp2
    clear c0
    obtain ⟨wo, rfl⟩ : ∃ wo : World, wo = wr := ⟨_, rfl⟩
    go_loopw [] (fun wr => Hid (∃ v' J, LrUsr wo g v l a pb po cs T v' J wr ∧ a + J * 7 ≤ 800 ∧ (J = 0 ∨ a + (J - 1) * 7 < l.length))) (fun wr => (1000 - intOf ((wr.cell? ⟨g, 1, none⟩).getD undef)).toNat)
    case atStart => exact Lib.hid ⟨_, _, HST.out, by omega, .inl rfl⟩
    case round =>
      clear HST
      obtain ⟨v', J, hs, hJ, hJ2⟩ := hrel.out
      obtain ⟨s', c', rfl⟩ := own_slice1 hs.own
      have HAT : Hid (wr.cell? ⟨g, 1, none⟩ = some (.int .i64 ((a + J * 7 : Nat) : Int))) := Lib.hid (cell_row hs.form.box 1)
      have HS := Lib.hid hs
      have HM := Lib.hid (cr_more hs.form (by omega) (by omega))
      have hmb : (!decide (l.length < a + J * 7) && decide (a + J * 7 < l.length)) = decide (a + J * 7 < l.length) := by
        rw [Bool.eq_iff_iff]; simp; omega
      rw [hmb] at HM
      clear hs hmb
      by_cases hlt : a + J * 7 < l.length
      · rw [decide_eq_true hlt] at HM
        go_upto_region 6 with (go_at_call 186; refine HM.out.mono ?_; rintro e w1 ⟨rfl, nq, rfl⟩)
        have hk1 : Keep (fun b => b = g ∨ b = pb) wo (wr.drewN nq) := HS.out.keep.drewN nq
        have hf1 : CrAt (wr.drewN nq) g v l (a + J * 7) (decide (l.length < a + J * 7)) := ⟨HS.out.form.box, byt_keep (F := fun _ => False) HS.out.form.byt ((Keep.refl _ wr).drewN nq) (fun _ _ _ _ _ _ e => e), HS.out.form.apart⟩
        have hc1 : (wr.drewN nq).heap[pb]? = some (.cells (cs.setIfInBounds po (.slice s' J c')) T (0, 0)) := HS.out.cell
        have ho1 : (wr.drewN nq).ownsRow wo.heap.size 167 3 (.slice s' J c') J (rowsOf Usr.cells (uses l a J)) := HS.out.own
        revert hk1 hf1 hc1 ho1
        generalize wr.drewN nq = w1
        intro hk1 hf1 hc1 ho1
        have hba : Below w1.heap.size w1 (w1.alloc (.cells #[.int .i64 0, .int .i64 0, .int .u32 0] 167 (0, 0))) := (Below.refl _ _).alloc (Nat.le_refl _) _
        have hnew := heap_alloc_last w1 (.cells #[.int .i64 0, .int .i64 0, .int .u32 0] 167 (0, 0))
        have hf2 := hf1.below hba
        have hlt1 : g < w1.heap.size := (Array.getElem?_eq_some_iff.1 hf1.box).1
        have hlt2 : pb < w1.heap.size := (Array.getElem?_eq_some_iff.1 hc1).1
        have HP := Lib.hid (pr_use' hf2 rfl (by omega) (by omega) hnew (by omega) (byt_apart hf1.byt))
        unfold rV at HP
        have HK2 := Lib.hid (hk1.trans (Keep.of_below hba))
        have HC2 := Lib.hid (old_heap hc1 hba)
        have HO2 := Lib.hid (own_below ho1 hba)
        have HLT := Lib.hid (show g < w1.heap.size ∧ pb < w1.heap.size ∧ wo.heap.size ≤ w1.heap.size from ⟨hlt1, hlt2, hk1.size⟩)
        have HOL := Lib.hid (own_block_lt ho1)
        clear hf1 hf2 hc1 ho1 hba hnew hk1 HM HS hrel
        go_upto_region 8 with (go_at_call 141; go_must (refine HP.out.mono ?_; rintro e w2 ⟨rfl, hcp⟩; have HCP := Lib.hid hcp; clear hcp))
        clear HP
        have hK3 : Keep (fun b => b = g ∨ b = pb) wo w2 := HK2.out.trans' HCP.out.keep (fun i hi hf => by rcases hf with e | e; exact .inl e; have := HLT.out.2.2; omega)
        have hC3 : w2.heap[pb]? = some (.cells (cs.setIfInBounds po (.slice s' J c')) T (0, 0)) := HCP.out.keep.heap HC2.out (by have := HLT.out; omega)
        have hO3 : w2.ownsRow wo.heap.size 167 3 (.slice s' J c') J (rowsOf Usr.cells (uses l a J)) := own_move HO2.out (fun k hk => HCP.out.keep.block k (own_block_lt HO2.out k hk) (by have h1 := (HO2.out.lt k hk).1; have h2 := HOL.out k hk; omega))
        have hXC := HCP.out.cell
        have hpc : w2.cell? ⟨pb, po, none⟩ = some (.slice s' J c') := (cell_row hC3 po).trans (set_at cs po _ _ HC.out)
        have hpf := free_row hC3 po
        have x0 : w2.cell? ⟨w1.heap.size, 0, none⟩ = some (.int .i64 (rN l ((a + J * 7)) 2 : Int)) := cell_row hXC 0
        have x1 : w2.cell? ⟨w1.heap.size, 1, none⟩ = some (.int .i64 (rN l (((a + J * 7) + 2)) 1 : Int)) := cell_row hXC 1
        have x2 : w2.cell? ⟨w1.heap.size, 2, none⟩ = some (.int .u32 (rN l ((((a + J * 7) + 2) + 1)) 4 : Int)) := cell_row hXC 2
        have hlt2 : pb < w2.heap.size := (Array.getElem?_eq_some_iff.1 hC3).1
        have hltX : w1.heap.size < w2.heap.size := (Array.getElem?_eq_some_iff.1 hXC).1
        have hneq : ∀ k, Value.ownBlock (.slice s' J c') = some k → k ≠ pb ∧ k ≠ w1.heap.size ∧ wo.heap.size ≤ k := fun k hk => by
          have h1 := (HO2.out.lt k hk).1
          have h2 := HOL.out k hk
          exact ⟨by omega, by omega, h1⟩
        have hHS : (fun w' : World => w'.cell? ⟨pb, po, none⟩ = some (.slice s' J c') ∧ w'.frozen? ⟨pb, po, none⟩ = false ∧ w'.cell? ⟨w1.heap.size, 0, none⟩ = some (.int .i64 (rN l ((a + J * 7)) 2 : Int)) ∧ w'.cell? ⟨w1.heap.size, 1, none⟩ = some (.int .i64 (rN l (((a + J * 7) + 2)) 1 : Int)) ∧ w'.cell? ⟨w1.heap.size, 2, none⟩ = some (.int .u32 (rN l ((((a + J * 7) + 2) + 1)) 4 : Int))) w2.drew := ⟨hpc, hpf, x0, x1, x2⟩
        have hkp : ∀ w' : World, w'.heap[pb]? = w2.heap[pb]? → w'.heap[w1.heap.size]? = w2.heap[w1.heap.size]? → (fun w' : World => w'.cell? ⟨pb, po, none⟩ = some (.slice s' J c') ∧ w'.frozen? ⟨pb, po, none⟩ = false ∧ w'.cell? ⟨w1.heap.size, 0, none⟩ = some (.int .i64 (rN l ((a + J * 7)) 2 : Int)) ∧ w'.cell? ⟨w1.heap.size, 1, none⟩ = some (.int .i64 (rN l (((a + J * 7) + 2)) 1 : Int)) ∧ w'.cell? ⟨w1.heap.size, 2, none⟩ = some (.int .u32 (rN l ((((a + J * 7) + 2) + 1)) 4 : Int))) w' := fun w' e1 e2 => ⟨(cell_row (e1.trans hC3) po).trans (set_at cs po _ _ HC.out), free_row (e1.trans hC3) po, cell_row (e2.trans hXC) 0, cell_row (e2.trans hXC) 1, cell_row (e2.trans hXC) 2⟩
        have HKP := Lib.hid hkp
        have hAl : Below w2.heap.size w2 (w2.drew.alloc (.cells (ruse l (a + J * 7)).cells.toArray 167 (0, 0))) := (Below.refl _ w2).drew.alloc (Nat.le_refl _) _
        have HAL := Lib.hid hAl
        have HHS := Lib.hid hHS
        have HK3 := Lib.hid hK3
        have HC3 := Lib.hid hC3
        have HO3 := Lib.hid (hO3 : w2.drew.ownsRow wo.heap.size 167 3 (.slice s' J c') J (rowsOf Usr.cells (uses l a J)))
        have HNEQ := Lib.hid hneq
        have HF3 := Lib.hid HCP.out.form
        have hJb : J ≤ 800 := by omega
        have hwoL := HLT.out.2.2
        clear hpc hpf x0 x1 x2 hK3 hC3 hO3 hXC hneq hHS hkp hAl HC2 HO2 HK2 HCP
        refine wp_region_F (S := (fun w' => w'.cell? ⟨pb, po, none⟩ = some (.slice s' J c') ∧ w'.frozen? ⟨pb, po, none⟩ = false ∧ w'.cell? ⟨w1.heap.size, 0, none⟩ = some (.int .i64 (rN l ((a + J * 7)) 2 : Int)) ∧ w'.cell? ⟨w1.heap.size, 1, none⟩ = some (.int .i64 (rN l (((a + J * 7) + 2)) 1 : Int)) ∧ w'.cell? ⟨w1.heap.size, 2, none⟩ = some (.int .u32 (rN l ((((a + J * 7) + 2) + 1)) 4 : Int)))) 8 (by kernel_rfl) (by exact HHS.out) (fun hHeld => ?_)
        refine take1F (i := 0) (v := ?_) (a' := ?_) (some 29) #[true, false, false, false, false, false, false, false, false] rfl rfl (by kernel_rfl) (fun _ _ _ h => h) (Or.inl ⟨by rfl, ?_⟩) hHeld ?_ ?_
        rotate_left
        · (intro w hSw; (try dsimp only at hSw); obtain ⟨hpc, hpf, x0, x1, x2⟩ := hSw; go_simp; (try with_reducible rfl))
        rotate_left
        · simp only [Act.put, List.setIfInBounds_toArray, List.set_cons_zero, List.set_cons_succ]
          rfl
        refine take1F (i := 1) (v := ?_) (a' := ?_) (some 30) #[true, true, false, false, false, false, false, false, false] rfl rfl (by kernel_rfl) (fun _ _ _ h => h) (Or.inl ⟨by rfl, ?_⟩) hHeld ?_ ?_
        rotate_left
        · (intro w hSw; (try dsimp only at hSw); obtain ⟨hpc, hpf, x0, x1, x2⟩ := hSw; go_simp; (try with_reducible rfl))
        rotate_left
        · simp only [Act.put, List.setIfInBounds_toArray, List.set_cons_zero, List.set_cons_succ]
          rfl
        refine take1F (i := 2) (v := ?_) (a' := ?_) (some 31) #[true, true, true, false, false, false, false, false, false] rfl rfl (by kernel_rfl) (fun _ _ _ h => h) (Or.inl ⟨by rfl, ?_⟩) hHeld ?_ ?_
        rotate_left
        · (intro w hSw; (try dsimp only at hSw); obtain ⟨hpc, hpf, x0, x1, x2⟩ := hSw; go_simp; (try with_reducible rfl))
        rotate_left
        · simp only [Act.put, List.setIfInBounds_toArray, List.set_cons_zero, List.set_cons_succ]
          rfl
        refine take1F (i := 3) (v := ?_) (a' := ?_) (some 32) #[true, true, true, true, false, false, false, false, false] rfl rfl (by kernel_rfl) (fun _ _ _ h => h) (Or.inl ⟨by rfl, ?_⟩) hHeld ?_ ?_
        rotate_left
        · (intro w hSw; (try dsimp only at hSw); obtain ⟨hpc, hpf, x0, x1, x2⟩ := hSw; go_simp; (try with_reducible rfl))
        rotate_left
        · simp only [Act.put, List.setIfInBounds_toArray, List.set_cons_zero, List.set_cons_succ]
          rfl
        refine take1F (i := 4) (v := ?_) (a' := ?_) (some 33) #[true, true, true, true, true, false, false, false, false] rfl rfl (by kernel_rfl) (fun _ _ _ h => h) (Or.inl ⟨by rfl, ?_⟩) hHeld ?_ ?_
        rotate_left
        · (intro w hSw; (try dsimp only at hSw); obtain ⟨hpc, hpf, x0, x1, x2⟩ := hSw; go_simp; (try with_reducible rfl))
        rotate_left
        · simp only [Act.put, List.setIfInBounds_toArray, List.set_cons_zero, List.set_cons_succ]
          rfl
        refine loud1F (i := 5) (some 34) #[true, true, true, true, true, true, false, false, false] rfl rfl (by kernel_rfl) (fun K hK => ?_)
        go_simp
        skip
        refine hK.out _ _ (by first | exact HKP.out _ (HAL.out.block pb hlt2) (HAL.out.block _ hltX) | exact HKP.out _ ((HG4.out.block pb (Nat.lt_of_lt_of_le hlt2 HAL.out.size) (fun e => (HNEQ.out pb e.symm).1 rfl)).trans (HAL.out.block pb hlt2)) ((HG4.out.block _ (Nat.lt_of_lt_of_le hltX HAL.out.size) (fun e => (HNEQ.out _ e.symm).2.1 rfl)).trans (HAL.out.block _ hltX))) (fun hHeld' => ?_)
        clear hK K hHeld
        have hHeld := hHeld'
        clear hHeld'
        try simp only [Act.put, List.setIfInBounds_toArray, List.set_cons_zero, List.set_cons_succ]
        refine loud1F (i := 6) (some 35) #[true, true, true, true, true, true, true, false, false] rfl rfl (by kernel_rfl) (fun K hK => ?_)
        (refine step_append_rd (by rfl) (.tmp 32) (.tmp 34) 97 (by rfl) wo.heap.size 167 (.agg #[.int .i64 0, .int .i64 0, .int .u32 0]) 3 24 Try.underlying97 infoUse3 rfl (by decide) _ _ _ (by rfl) (HO3.out.alloc _) _ 1 (ruse l (a + J * 7)).cells (by rfl) (rd_row (heap_alloc_last w2.drew (.cells (ruse l (a + J * 7)).cells.toArray 167 (0, 0))) rfl 1) (Usr.cells_one _) (by omega) (by decide) (by simp; omega) ?_; intro v4 w4 hown4 hbel4 hg4; obtain ⟨s4, c4, rfl⟩ := own_slice1 hown4; have HO4 := Lib.hid hown4; have HB4 := Lib.hid hbel4; have HG4 := Lib.hid hg4; clear hown4 hbel4 hg4)
        refine hK.out _ _ (by first | exact HKP.out _ (HAL.out.block pb hlt2) (HAL.out.block _ hltX) | exact HKP.out _ ((HG4.out.block pb (Nat.lt_of_lt_of_le hlt2 HAL.out.size) (fun e => (HNEQ.out pb e.symm).1 rfl)).trans (HAL.out.block pb hlt2)) ((HG4.out.block _ (Nat.lt_of_lt_of_le hltX HAL.out.size) (fun e => (HNEQ.out _ e.symm).2.1 rfl)).trans (HAL.out.block _ hltX))) (fun hHeld' => ?_)
        clear hK K hHeld
        have hHeld := hHeld'
        clear hHeld'
        try simp only [Act.put, List.setIfInBounds_toArray, List.set_cons_zero, List.set_cons_succ]
        refine take1F (i := 7) (v := ?_) (a' := ?_) (some 36) #[true, true, true, true, true, true, true, true, false] rfl rfl (by kernel_rfl) (fun _ _ _ h => h) (Or.inl ⟨by rfl, ?_⟩) hHeld ?_ ?_
        rotate_left
        · (intro w hSw; (try dsimp only at hSw); obtain ⟨hpc, hpf, x0, x1, x2⟩ := hSw; go_simp; (try with_reducible rfl))
        rotate_left
        · simp only [Act.put, List.setIfInBounds_toArray, List.set_cons_zero, List.set_cons_succ]
          rfl
        refine last1F (none) #[true, true, true, true, true, true, true, true, true] rfl rfl (by kernel_rfl) (fun K hK => ?_)
        (obtain ⟨hpc, hpf, x0, x1, x2⟩ := hHeld; go_simp)
        refine hK.out _ _ ?_
        clear hK K
        try simp only [Act.put, List.setIfInBounds_toArray, List.set_cons_zero, List.set_cons_succ]
        refine wpAnyF_done (by kernel_rfl) ?_ _
        have hb24 : Below wo.heap.size w2 w4 := (HAL.out.mono (Nat.le_of_lt (Nat.lt_of_le_of_lt hwoL hltX))).trans HB4.out
        have hkF : Keep (fun b => b = pb ∨ wo.heap.size ≤ b) w2 (w4.setCell ⟨pb, po, none⟩ (.slice s4 (J + 1) c4)) := (keepF hb24).setCell pb po _ (.inl rfl)
        have heq : a + (J + 1) * 7 = a + J * 7 + 7 := by omega
        have hC4 : w4.heap[pb]? = some (.cells (cs.setIfInBounds po (.slice s' J c')) T (0, 0)) := (hb24.block pb hpl).trans HC3.out
        have hown := HO4.out
        rw [← rowsOf_snoc, ← uses_snoc] at hown
        have hnew : LrUsr wo g v l a pb po cs T (.slice s4 (J + 1) c4) (J + 1) (w4.setCell ⟨pb, po, none⟩ (.slice s4 (J + 1) c4)) := by
          refine ⟨?_, ?_, ?_, ?_⟩
          · rw [heq]
            exact ⟨hkF.heap HF3.out.box (by omega), byt_keep HF3.out.byt hkF (fun hne b o n c e f => by rcases f with f | f; exact HV.out hne b o n c e f; exact HVA.out hne b o n c e f), HF3.out.apart⟩
          · have := head_set hC4 po (.slice s4 (J + 1) c4)
            rw [set_set2] at this
            exact this
          · exact own_move hown (fun k hk => Below.heap_setCell _ ⟨pb, po, none⟩ _ k (by have := (hown.lt k hk).1; show k ≠ pb; omega))
          · exact HK3.out.trans' hkF (fun i hi hf => by rcases hf with e | e; exact .inr e; omega)
        have hat1 : (w4.setCell ⟨pb, po, none⟩ (.slice s4 (J + 1) c4)).cell? ⟨g, 1, none⟩ = some (.int .i64 ((a + (J + 1) * 7 : Nat) : Int)) := cell_row hnew.form.box 1
        have hat0 : wr.cell? ⟨g, 1, none⟩ = some (.int .i64 ((a + J * 7 : Nat) : Int)) := HAT.out
        have HNEW := Lib.hid hnew
        have HAT1 := Lib.hid hat1
        have HAT0 := Lib.hid hat0
        clear hb24 hkF heq hC4 hown hnew hat1 hat0 HO4 HB4 HG4 HC3 HO3 HK3 HF3 HHS HKP HAL
        revert HNEW HAT1
        generalize w4.setCell ⟨pb, po, none⟩ (.slice s4 (J + 1) c4) = w5
        intro HNEW HAT1
        go_wp2
        go_roundw
        case rel => exact Lib.hid ⟨_, J + 1, HNEW.out, by omega, .inr (by rw [Nat.add_sub_cancel]; exact hlt)⟩
        case measure => rw [HAT1.out, HAT0.out]; simp [intOf]; omega
      · rw [decide_eq_false hlt] at HM
        have hlt3 : l.length ≤ a + J * 7 := by omega
        go_wp2_with (go_at_call 186; refine HM.out.mono ?_; rintro e w1 ⟨rfl, nq, rfl⟩)
        go_end0
        exact ⟨_, J, rfl, ⟨⟨HS.out.form.box, byt_keep (F := fun _ => False) HS.out.form.byt ((Keep.refl _ wr).drewN nq) (fun _ _ _ _ _ _ e => e), HS.out.form.apart⟩, HS.out.cell, HS.out.own, HS.out.keep.drewN nq⟩, hlt3, hJ2⟩
end Go.Proofs.Ytcpfafmkhegckaa
/-
  Codec: lists of uses: may they be, as sectors, and back.
-/
namespace Go.Proofs.Ytcpfafmkhegckaa
open Go.RowKit
set_option linter.unusedVariables false
set_option linter.unusedSimpArgs false
set_option linter.unnecessarySimpa false
def useMay (x : Usr) : Bool := decide (0 ≤ x.state ∧ x.state ≤ 3)
set_option maxRecDepth 10000 in
set_option maxHeartbeats 4000000 in
theorem useMay_any (x : Usr) (w : World) : Calls Try.prog 143 #[.agg x.cells.toArray] w fun e w' => e = .returned (.bool (useMay x)) ∧ Below w.heap.size w w' := by
  obtain ⟨y0, y1, y2⟩ := x
  have hc : (Usr.mk y0 y1 y2).cells.toArray = #[.int .i64 y0, .int .i64 y1, .int .u32 (y2 : Int)] := rfl
  rw [hc]
  have HA := fun w' => Lib.hid (among_any y1 0 3 w')
  obtain ⟨m, hm⟩ : ∃ m, useMay ⟨y0, y1, y2⟩ = m := ⟨_, rfl⟩
  have hm' : decide (0 ≤ y1 ∧ y1 ≤ 3) = m := hm
  rw [hm'] at HA
  rw [hm]
  have HB := Lib.hid (show Below w.heap.size w (w.alloc (.cells #[.int .i64 y0, .int .i64 y1, .int .u32 (y2 : Int)] 167 (0, 0))) from (Below.refl _ _).alloc (Nat.le_refl _) _)
  clear hm hm' hc
  go_enter Try.func143, Try.ntmps143
  go_wp2_with (go_at_call 119; refine (HA _).out.mono ?_; rintro e w' ⟨rfl, rfl⟩)
  go_ret
  exact ⟨rfl, HB.out⟩
/-- May all of them be, and are they few enough? -/
def usesMay (L : List Usr) : Bool := L.all useMay && decide (L.length ≤ 15)
set_option maxRecDepth 10000 in
set_option maxHeartbeats 8000000 in
theorem useEach_any (L : List Usr) (A : Option Addr) (c p1 p2 : Nat) (w : World) (hf : w.cell? ⟨p1, 0, none⟩ = some (.func (.func 143) #[] #[])) (hm : w.cell? ⟨p2, 0, none⟩ = some (.int .i64 15)) (hR : ReadAt w A Usr.cells 3 L) (hL : L.length ≤ 140737488355328) :
    Calls Try.prog 159 #[.slice A L.length c, .pointer (some ⟨p1, 0, none⟩), .pointer (some ⟨p2, 0, none⟩)] w fun e w' => e = .returned (.bool (usesMay L)) ∧ Below w.heap.size w w' := by
  have hp1 := World.block_lt_of_cell? w _ hf
  have hp2 := World.block_lt_of_cell? w _ hm
  dsimp only at hp1 hp2
  have HF := Lib.hid hf
  have HM := Lib.hid hm
  have HR := Lib.hid hR
  have HMA := fun x W => Lib.hid (useMay_any x W)
  clear hf hm hR
  go_enter Try.func159, Try.ntmps159
  go_wp2
  go_loopw [9] (fun i wr => ∃ k : Nat, k ≤ L.length ∧ i = .int .i64 (k : Int) ∧ Hid ((L.take k).all useMay = true) ∧ Hid (Below w.heap.size w wr)) (fun i _ => (L.length - intOf i).toNat)
  case atStart => exact ⟨0, by omega, rfl, Lib.hid rfl, Lib.hid (Below.refl _ _)⟩
  case round =>
    obtain ⟨k, hk, rfl, HK, HB⟩ := hrel
    have hf := (HB.out.cell (p := ⟨p1, 0, none⟩) hp1).trans HF.out
    have hm := (HB.out.cell (p := ⟨p2, 0, none⟩) hp2).trans HM.out
    by_cases hlt : k < L.length
    · obtain ⟨x, hx⟩ : ∃ x, L[k]? = some x := ⟨_, List.getElem?_eq_getElem hlt⟩
      obtain ⟨b, o, rfl, hr⟩ := rows_at Usr.cells_len HR.out hx
      have hbl : b < w.heap.size := World.block_lt_of_cell? w ⟨b, o + k * 3 + 0, none⟩ (hr 0 _ rfl)
      have hr2 : wr.rangeAt b (o + k * 3) x.cells := fun j u hu => (HB.out.cell (p := ⟨b, o + k * 3 + j, none⟩) hbl).trans (hr j u hu)
      have HX := Lib.hid hx
      obtain ⟨y0, y1, y2⟩ := x
      have e0 : wr.cell? ⟨b, o + k * 3, none⟩ = some (.int .i64 y0) := hr2 0 _ rfl
      have e1 : wr.cell? ⟨b, o + k * 3 + 1, none⟩ = some (.int .i64 y1) := hr2 1 _ rfl
      have e2 : wr.cell? ⟨b, o + k * 3 + 2, none⟩ = some (.int .u32 (y2 : Int)) := hr2 2 _ rfl
      have hmx := fun W => (HMA ⟨y0, y1, y2⟩ W)
      have hcc : (Usr.mk y0 y1 y2).cells.toArray = #[.int .i64 y0, .int .i64 y1, .int .u32 (y2 : Int)] := rfl
      obtain ⟨q, hq⟩ : ∃ q, useMay ⟨y0, y1, y2⟩ = q := ⟨_, rfl⟩
      simp only [hcc, hq] at hmx
      have HQ := Lib.hid hq
      have hba : Below wr.heap.size wr (wr.alloc (.cells #[.int .i64 y0, .int .i64 y1, .int .u32 (y2 : Int)] 167 (0, 0))) := (Below.refl _ _).alloc (Nat.le_refl _) _
      have HBA := Lib.hid (HB.out.trans (hba.mono HB.out.size))
      have hf2 := (hba.cell (p := ⟨p1, 0, none⟩) (Nat.lt_of_lt_of_le hp1 HB.out.size)).trans hf
      have hm2 := (hba.cell (p := ⟨p2, 0, none⟩) (Nat.lt_of_lt_of_le hp2 HB.out.size)).trans hm
      clear hr hr2 hx hcc hq hba
      cases q with
      | true =>
        go_wp2_with (go_at_call 143; go_must (refine (hmx _).out.mono ?_; rintro e w2 ⟨rfl, hb2⟩; have HB2 := Lib.hid (HBA.out.trans (hb2.mono HBA.out.size)); clear hb2))
        have HK2 : Hid ((L.take (k + 1)).all useMay = true) := Lib.hid (by
          obtain ⟨hk3, e3⟩ := List.getElem?_eq_some_iff.1 HX.out
          rw [List.take_succ_eq_append_getElem hk3, List.all_append, HK.out, e3]
          simp [HQ.out])
        go_roundw
        case rel => exact ⟨k + 1, by omega, by go_num, HK2, HB2⟩
        case measure => simp [intOf]; omega
      | false =>
        have hno : usesMay L = false := by
          unfold usesMay
          have : L.all useMay = false := by rw [List.all_eq_false]; exact ⟨_, List.mem_of_getElem? HX.out, by rw [HQ.out]; simp⟩
          rw [this]; rfl
        have HNO := Lib.hid hno
        clear hno
        go_wp2_with (go_at_call 143; go_must (refine (hmx _).out.mono ?_; rintro e w2 ⟨rfl, hb2⟩; have HB2 := Lib.hid (HBA.out.trans (hb2.mono HBA.out.size)); clear hb2))
        go_ret
        exact ⟨by rw [HNO.out]; rfl, HB2.out⟩
    · obtain rfl : k = L.length := by omega
      have hall := HK.out
      rw [List.take_length] at hall
      have hyes : usesMay L = decide ((L.length : Int) ≤ 15) := by unfold usesMay; rw [hall, Bool.true_and, decide_eq_decide]; omega
      have HYES := Lib.hid hyes
      clear hall hyes
      go_wp2
      go_ret
      exact ⟨by rw [HYES.out]; rfl, HB.out⟩
set_option maxRecDepth 10000 in
set_option maxHeartbeats 4000000 in
theorem usesEach_any (f : Value) (hf1 : f.oneCell' = true) (w : World) : Calls Try.prog 142 #[.int .i64 15, f] w fun e w' => e = .returned (.func (.func 159) #[] #[.pointer (some ⟨w.heap.size + 1, 0, none⟩), .pointer (some ⟨w.heap.size, 0, none⟩)]) ∧ w' = (w.alloc (.cells #[.int .i64 15] 3 (0, 0))).alloc (.cells #[f] 172 (0, 0)) := by
  have hmf : ∀ (fn : Fn) (first cap : Array Value) (w : World), (Instr.makeFunc fn first cap).run Try.prog w = .ok (.func fn first cap) w := fun _ _ _ _ => rfl
  go_enter Try.func142, Try.ntmps142
  go_wp2
  go_ret
  exact ⟨rfl, rfl⟩
set_option maxRecDepth 10000 in
set_option maxHeartbeats 4000000 in
theorem usesMay_any (L : List Usr) (A : Option Addr) (c : Nat) (w : World) (hR : ReadAt w A Usr.cells 3 L) (hL : L.length ≤ 140737488355328) :
    Calls Try.prog 94 #[.slice A L.length c] w fun e w' => e = .returned (.bool (usesMay L)) ∧ Below w.heap.size w w' := by
  have hb2 : Below w.heap.size w ((w.alloc (.cells #[.int .i64 15] 3 (0, 0))).alloc (.cells #[.func (.func 143) #[] #[]] 172 (0, 0))) := ((Below.refl _ _).alloc (Nat.le_refl _) _).alloc (by simp) _
  have hG2 := old_heap (heap_alloc_last w (.cells #[.int .i64 15] 3 (0, 0))) ((Below.refl _ _).alloc (Nat.le_refl _) (.cells #[.func (.func 143) #[] #[]] 172 (0, 0)))
  have hT2 := heap_alloc_last (w.alloc (.cells #[.int .i64 15] 3 (0, 0))) (.cells #[.func (.func 143) #[] #[]] 172 (0, 0))
  rw [show (w.alloc (.cells #[.int .i64 15] 3 (0, 0))).heap.size = w.heap.size + 1 by simp] at hT2
  have HE := Lib.hid (usesEach_any (.func (.func 143) #[] #[]) rfl w)
  have HM := Lib.hid (useEach_any L A c (w.heap.size + 1) w.heap.size _ (cell_row hT2 0) (cell_row hG2 0) (hR.below Usr.cells_len hb2) hL)
  have HB := Lib.hid hb2
  clear hb2 hG2 hT2 hR
  revert HE HM HB
  generalize hw2 : (w.alloc (.cells #[.int .i64 15] 3 (0, 0))).alloc (.cells #[.func (.func 143) #[] #[]] 172 (0, 0)) = w2
  intro HE HM HB
  have HW := Lib.hid hw2
  clear hw2
  go_enter Try.func94, Try.ntmps94
  go_wp2_with (first
    | (go_at_call 142; go_must (refine HE.out.mono ?_; rintro e w3 ⟨rfl, rfl⟩))
    | (go_at_call 159; go_must (refine HM.out.mono ?_; rintro e w4 ⟨rfl, hb4⟩; have HB4 := Lib.hid (bnext HB.out hb4); clear hb4)))
  go_ret
  exact ⟨rfl, HB4.out⟩
/-- The pass of a list. -/
theorem pw_uses {w : World} {base g : Nat} {l : List UInt8} {bad : Bool} (L : List Usr) (A : Option Addr) (c : Nat) (pb po : Nat) (h : CwAt w base g l bad) (hc : w.cell? ⟨pb, po, none⟩ = some (.slice A L.length c)) (hR : ReadAt w A Usr.cells 3 L)
    (hA : ∀ a, A = some a → a.block < base) (hpb : pb < base) (hok : ∀ x ∈ L, x.Ok) (hl : l.length ≤ 1000) (hL : L.length ≤ 1000) (hbs : base ≤ w.heap.size) :
    Calls Try.prog 93 #[wV g, .pointer (some ⟨pb, po, none⟩)] w (CwTo w base g (l ++ fB (useAll L)) (bad || fBad (useAll L))) := by
  have HL := Lib.hid (lw_use L A c pb po h hc hR hA hpb hok hl hL hbs)
  unfold CwTo at HL ⊢
  clear h hc hR
  unfold wV at HL ⊢
  go_enter Try.func93, Try.ntmps93
  go_wp2_with (go_at_call 140; go_must (refine HL.out.mono ?_; rintro e w2 ⟨rfl, h2⟩; have H2 := Lib.hid h2; clear h2))
  go_end0
  exact ⟨rfl, H2.out⟩
theorem pr_uses {w : World} {g : Nat} {v : Value} {l : List UInt8} (a pb po : Nat) (cs : Array Value) (T : TypeId) (h : CrAt w g v l a (decide (l.length < a))) (hl : l.length ≤ 255) (ha : a ≤ 400) (hb : w.heap[pb]? = some (.cells cs T (0, 0))) (hc : cs[po]? = some (.slice none 0 0)) (hpg : pb ≠ g) (hv : Apart (· = pb) v l) :
    Calls Try.prog 93 #[rV g, .pointer (some ⟨pb, po, none⟩)] w fun e w' => ∃ v' J, e = .returned (.tuple #[]) ∧ LrUsr w g v l a pb po cs T v' J w' ∧ l.length ≤ a + J * 7 ∧ (J = 0 ∨ a + (J - 1) * 7 < l.length) := by
  have HL := Lib.hid (lr_use a pb po cs T h hl ha hb hc hpg hv)
  clear h hb hc hv
  unfold rV at HL ⊢
  go_enter Try.func93, Try.ntmps93
  go_wp2_with (go_at_call 140; go_must (refine HL.out.mono ?_; rintro e w2 ⟨v', J, rfl, h2⟩; have H2 := Lib.hid h2; clear h2))
  go_end0
  exact ⟨v', J, rfl, H2.out⟩
end Go.Proofs.Ytcpfafmkhegckaa
/-
  Codec: lists of uses as sectors, and back: the program's.
-/
namespace Go.Proofs.Ytcpfafmkhegckaa
open Go.RowKit
set_option linter.unusedVariables false
set_option linter.unusedSimpArgs false
set_option linter.unnecessarySimpa false
set_option maxRecDepth 10000 in
set_option maxHeartbeats 8000000 in
theorem wrl_use (kind : UInt8) (A : Option Addr) (nl c : Nat) (mayb : Bool) (L : List UInt8) (bad : Bool) (w : World)
    (hm : ∀ w', Below w.heap.size w w' → Calls Try.prog 94 #[.slice A nl c] w' fun e w'' => e = .returned (.bool mayb) ∧ Below w'.heap.size w' w'')
    (hp : ∀ w' base g pb, Below w.heap.size w w' → CwAt w' base g [] false → w'.heap[pb]? = some (.cells #[.slice A nl c] 97 (0, 0)) → base ≤ w'.heap.size → pb < base → w.heap.size ≤ base → Calls Try.prog 93 #[wV g, .pointer (some ⟨pb, 0, none⟩)] w' (CwTo w' base g L bad)) :
    Calls Try.prog 92 #[.int .u8 (kind.toNat : Int), .slice A nl c, .func (.func 93) #[] #[], .func (.func 94) #[] #[]] w (WrS w kind (mayb && !bad) L) := by
  have HM := Lib.hid hm
  have HP := Lib.hid hp
  clear hm hp
  go_enter Try.func92, Try.ntmps92
  go_upto_region 2 with fail
  have hA := a3 w (.cells #[.slice A nl c] 97 (0, 0)) (.cells Try.zeroCells36 36 (0, 0)) (.cells #[.slice none 0 0, .bool false] 198 (0, 0))
  revert hA
  generalize ((w.alloc (.cells #[.slice A nl c] 97 (0, 0))).alloc (.cells Try.zeroCells36 36 (0, 0))).alloc (.cells #[.slice none 0 0, .bool false] 198 (0, 0)) = w2
  intro hA
  have HA := Lib.hid hA
  clear hA
  have c5 : w2.cell? ⟨w.heap.size, 0, none⟩ = some (.slice A nl c) := cell_row HA.out.h0 0
  cases mayb with
  | false =>
    go_wp2_with (first
      | (go_at_call 94; refine (HM.out w2 HA.out.bel).mono ?_; rintro e w3 ⟨rfl, hb3⟩; have HT := Lib.hid (old_heap HA.out.h1 hb3); have HB := Lib.hid (bnext HA.out.bel hb3); clear hb3)
      | (refine wpList_store_row rfl 36 (.tmp 8) (.tmp 17) rfl (w.heap.size + 1) zArr zArr 36 rfl rfl HT.out (by rw [zArr_size]; exact size_sec) rfl zArr_one ?_))
    have hld := run_loadVar_row (P := Try.prog) (w3.setRow (w.heap.size + 1) zArr) (w.heap.size + 1) 36 36 zArr (0, 0) _ (setRow_heap _ _ _ _ _ _ HT.out) Try.underlying36 (by simp) (by rw [zArr_size]; exact size_sec)
    exact bodyPost_ret (v := .tuple #[secV (List.replicate 128 0), .int .i64 1]) (results_cell2 Try.results92 rfl rfl hld) rfl (wrS_no rfl rfl (below_row HB.out (by omega)))
  | true =>
    go_upto_region 4 with (first
      | (go_at_call 94; refine (HM.out w2 HA.out.bel).mono ?_; rintro e w3 ⟨rfl, hb3⟩; have HB := Lib.hid (bnext HA.out.bel hb3); have HX := Lib.hid (old_heap HA.out.h0 hb3); have HT := Lib.hid (old_heap HA.out.h1 hb3); have HG := Lib.hid (old_heap HA.out.h2 hb3); clear hb3))
    have hgl := (Array.getElem?_eq_some_iff.1 HG.out).1
    have hcw : CwAt w3 (w.heap.size + 1 + 1) (w.heap.size + 1 + 1) [] false := ⟨.slice none 0 0, HG.out, own_none _ _ _, Nat.le_refl _, fun k hk => by cases hk⟩
    have hpp := HP.out w3 (w.heap.size + 1 + 1) (w.heap.size + 1 + 1) w.heap.size HB.out hcw HX.out (by omega) (by omega) (by omega)
    unfold CwTo wV at hpp
    have HPP := Lib.hid hpp
    clear hpp hcw hgl
    go_upto_region 5 with (go_at_call 93; refine HPP.out.mono ?_; rintro e w4 ⟨rfl, hcw, hb4⟩; have HB4 := Lib.hid (HB.out.trans (hb4.mono (by omega))); have HT4 := Lib.hid ((hb4.block (w.heap.size + 1) (by omega)).trans HT.out); have HCW := Lib.hid hcw; clear hcw hb4)
    obtain ⟨v4, hg4, ho4, -, -⟩ := HCW.out
    obtain ⟨sp4, cp4, rfl⟩ := own_slice1 ho4
    have HMK := Lib.hid (make_any kind _ L w4 (own_byt ho4).1)
    have c0 : w4.cell? ⟨w.heap.size + 1 + 1, 0, none⟩ = some (.slice sp4 L.length cp4) := cell_row hg4 0
    have c1 : w4.cell? ⟨w.heap.size + 1 + 1, 1, none⟩ = some (.bool bad) := cell_row hg4 1
    have hms : (bvs (makeS kind L)).toArray.size = 128 := by rw [secV_size, makeS_length]
    have HMS := Lib.hid hms
    clear hg4 ho4 HPP HCW HX HG HM HP hms
    cases bad with
    | true =>
      go_wp2_with (refine wpList_store_row rfl 36 (.tmp 8) (.tmp 26) rfl (w.heap.size + 1) zArr zArr 36 rfl rfl HT4.out (by rw [zArr_size]; exact size_sec) rfl zArr_one ?_)
      have hld := run_loadVar_row (P := Try.prog) (w4.setRow (w.heap.size + 1) zArr) (w.heap.size + 1) 36 36 zArr (0, 0) _ (setRow_heap _ _ _ _ _ _ HT4.out) Try.underlying36 (by simp) (by rw [zArr_size]; exact size_sec)
      exact bodyPost_ret (v := .tuple #[secV (List.replicate 128 0), .int .i64 1]) (results_cell2 Try.results92 rfl rfl hld) rfl (wrS_no rfl rfl (below_row HB4.out (by omega)))
    | false =>
      obtain ⟨S, hS⟩ : ∃ S, makeS kind L = S := ⟨_, rfl⟩
      obtain ⟨N, hN⟩ : ∃ N, makeE kind L = N := ⟨_, rfl⟩
      rw [hS, hN] at HMK
      rw [hS] at HMS
      have HS := Lib.hid hS
      have HN := Lib.hid hN
      clear hS hN
      unfold secV at HMK
      go_wp2_with (first
        | (go_at_call 53; refine HMK.out.mono ?_; rintro e w5 ⟨rfl, hb5⟩; have HT5 := Lib.hid (old_heap HT4.out hb5); have HB5 := Lib.hid (bnext HB4.out hb5); clear hb5)
        | (refine wpList_store_row rfl 36 (.tmp 8) (.tmp 33) rfl (w.heap.size + 1) zArr (bvs S).toArray 36 rfl rfl HT5.out (by rw [HMS.out]; exact size_sec) (by rw [HMS.out, zArr_size]) (sec_one _) ?_))
      have hld := run_loadVar_row (P := Try.prog) (w5.setRow (w.heap.size + 1) (bvs S).toArray) (w.heap.size + 1) 36 36 (bvs S).toArray (0, 0) _ (setRow_heap _ _ _ _ _ _ HT5.out) Try.underlying36 (by simp) (by rw [HMS.out]; exact size_sec)
      exact bodyPost_ret (v := .tuple #[secV S, .int .i64 N]) (results_cell2 Try.results92 rfl rfl hld) rfl (wrS_yes rfl (by rw [HS.out, HN.out]) (below_row HB5.out (by omega)))
theorem wrs_use (L : List Usr) (A : Option Addr) (c : Nat) (w : World) (hR : ReadAt w A Usr.cells 3 L) (hA : ∀ a, A = some a → a.block < w.heap.size) (hok : ∀ x ∈ L, x.Ok) (hL : L.length ≤ 1000) :
    Calls Try.prog 92 #[.int .u8 5, .slice A L.length c, .func (.func 93) #[] #[], .func (.func 94) #[] #[]] w (WrS w 5 (usesMay L && !fBad (useAll L)) (fB (useAll L))) :=
  wrl_use 5 A L.length c (usesMay L) (fB (useAll L)) (fBad (useAll L)) w (fun w' hb => usesMay_any L A c w' (hR.below Usr.cells_len hb) (by omega))
    (fun w' base g pb hb hcw hpb hbs hpl hwb => by
      have := pw_uses L A c pb 0 hcw (cell_row hpb 0) (hR.below Usr.cells_len hb) (fun a ha => Nat.lt_of_lt_of_le (hA a ha) hwb) hpl hok (by simp) hL hbs
      simpa using this)
def useRdOk (l : List UInt8) : Bool := (openB l && decide (openK l = 5)) && (decide ((openL l).length % 7 = 0) && usesMay (uses (openL l) 0 ((openL l).length / 7)))
def useRdL (l : List UInt8) : List Usr := if useRdOk l then uses (openL l) 0 ((openL l).length / 7) else []
/-- What reading comes to. -/
def RlUsr (w : World) (l : List UInt8) (e : Ending) (w' : World) : Prop :=
  ∃ v', e = .returned (.tuple #[v', .int .i64 (if useRdOk l then 0 else 21)]) ∧ w'.ownsRow w.heap.size 167 3 v' (useRdL l).length (rowsOf Usr.cells (useRdL l)) ∧ Below w.heap.size w w'
theorem rlUsr_no {w w' : World} {l : List UInt8} {e : Ending} (h : useRdOk l = false) (he : e = .returned (.tuple #[.slice none 0 0, .int .i64 21])) (hb : Below w.heap.size w w') : RlUsr w l e w' := by
  unfold RlUsr useRdL
  rw [h]
  exact ⟨_, he, own_nilk _ _ _ _, hb⟩
theorem rlUsr_yes {w w' : World} {l : List UInt8} {e : Ending} {v' : Value} {L : List Usr} (h : useRdOk l = true) (hL : uses (openL l) 0 ((openL l).length / 7) = L) (he : e = .returned (.tuple #[v', .int .i64 0])) (ho : w'.ownsRow w.heap.size 167 3 v' L.length (rowsOf Usr.cells L)) (hb : Below w.heap.size w w') : RlUsr w l e w' := by
  unfold RlUsr useRdL
  rw [h, if_pos rfl, if_pos rfl, hL]
  exact ⟨_, he, ho, hb⟩
set_option maxRecDepth 10000 in
set_option maxHeartbeats 8000000 in
theorem rdl_use (l : List UInt8) (w : World) (hl : l.length = 128) :
    Calls Try.prog 96 #[.int .u8 5, secV l, .func (.func 93) #[] #[], .func (.func 94) #[] #[]] w (RlUsr w l) := by
  have HSZ : Hid ((bvs l).toArray.size = 128) := by unfold Hid; rw [secV_size, hl]
  have HBL := Lib.hid (openL_le l)
  have hop := fun w' => open_any l w' hl
  obtain ⟨k, hk⟩ : ∃ k, openK l = k := ⟨_, rfl⟩
  obtain ⟨b, hb⟩ : ∃ b, openL l = b := ⟨_, rfl⟩
  obtain ⟨oe, hoe⟩ : ∃ oe, openE l = oe := ⟨_, rfl⟩
  rw [hk, hb, hoe] at hop
  rw [hb] at HBL
  have hokd : useRdOk l = ((openB l && decide (k = 5)) && (decide (b.length % 7 = 0) && usesMay (uses b 0 (b.length / 7)))) := by unfold useRdOk; rw [hk, hb]
  have HOKD := Lib.hid hokd
  have HBE := Lib.hid hb
  have HOP := fun w' => Lib.hid (hop w')
  have HOE := Lib.hid hoe
  clear hop hk hb hoe hl hokd
  unfold secV at HOP ⊢
  unfold OpTo at HOP
  have hB2 : Below w.heap.size w ((w.alloc (.cells (bvs l).toArray 36 (0, 0))).alloc (.cells #[.slice none 0 0] 97 (0, 0))) := ((Below.refl _ _).alloc (Nat.le_refl _) _).alloc (by simp) _
  have hG2 := old_heap (heap_alloc_last w (.cells (bvs l).toArray 36 (0, 0))) ((Below.refl _ _).alloc (Nat.le_refl _) (.cells #[.slice none 0 0] 97 (0, 0)))
  have hT2 := heap_alloc_last (w.alloc (.cells (bvs l).toArray 36 (0, 0))) (.cells #[.slice none 0 0] 97 (0, 0))
  rw [show (w.alloc (.cells (bvs l).toArray 36 (0, 0))).heap.size = w.heap.size + 1 by simp] at hT2
  have hS2 : ((w.alloc (.cells (bvs l).toArray 36 (0, 0))).alloc (.cells #[.slice none 0 0] 97 (0, 0))).heap.size = w.heap.size + 1 + 1 := by simp
  have HB2 := Lib.hid hB2
  have HG2 := Lib.hid hG2
  have HT2 := Lib.hid hT2
  have HS2 := Lib.hid hS2
  clear hB2 hG2 hT2 hS2
  go_enter Try.func96, Try.ntmps96
  go_upto_region 2 with fail
  revert HB2 HG2 HT2 HS2
  generalize (w.alloc (.cells (bvs l).toArray 36 (0, 0))).alloc (.cells #[.slice none 0 0] 97 (0, 0)) = w2
  intro HB2 HG2 HT2 HS2
  go_upto_region 3 with (first
    | (refine wpList_load_row rfl 36 (.tmp 5) rfl w.heap.size rfl _ _ _ _ HG2.out Try.underlying36 rfl (by rw [HSZ.out]; exact size_sec) ?_)
    | (go_at_call 58; refine (HOP _).out.mono ?_; rintro e w3 ⟨v, rfl, ho3, hb3⟩; obtain ⟨sp, cp, rfl⟩ := own_slice1 ho3; have HO3 := Lib.hid ho3; have HBF := Lib.hid (bnext HB2.out hb3); have HX := Lib.hid (old_heap HT2.out hb3); have HZ3 := Lib.hid (show w.heap.size + 1 + 1 ≤ w3.heap.size from by rw [← HS2.out]; exact hb3.size); clear ho3 hb3))
  clear HOP HG2 HT2 HB2
  cases ho : openB l with
  | false =>
    obtain rfl : oe = 21 := by rw [← HOE.out]; unfold openE; rw [ho]; rfl
    have hno : useRdOk l = false := by rw [HOKD.out, ho]; rfl
    have HNO := Lib.hid hno
    clear hno
    go_wp2
    go_ret2
    exact rlUsr_no HNO.out rfl HBF.out
  | true =>
    obtain rfl : oe = 0 := by rw [← HOE.out]; unfold openE; rw [ho]; rfl
    by_cases hk : k = 5
    · subst hk
      go_upto_region 6 with fail
      have hg4 := heap_alloc_last w3 (.cells #[.slice sp b.length cp, .int .i64 0, .bool false] 242 (0, 0))
      have hb4 : Below w3.heap.size w3 (w3.alloc (.cells #[.slice sp b.length cp, .int .i64 0, .bool false] 242 (0, 0))) := (Below.refl _ _).alloc (Nat.le_refl _) _
      revert hg4 hb4
      generalize w3.alloc (.cells #[.slice sp b.length cp, .int .i64 0, .bool false] 242 (0, 0)) = w4
      intro hg4 hb4
      have hcr : CrAt w4 w3.heap.size (.slice sp b.length cp) b 0 (decide (b.length < 0)) := ⟨by simpa using hg4, (own_byt HO3.out).1.below hb4, byt_apart (own_byt HO3.out).1⟩
      have hap : Apart (· = w.heap.size + 1) (.slice sp b.length cp) b := own_apart HO3.out (by have := HS2.out; omega)
      have HPP := Lib.hid (pr_uses 0 (w.heap.size + 1) 0 #[.slice none 0 0] 97 hcr HBL.out (by decide) (old_heap HX.out hb4) rfl (by have := HZ3.out; omega) hap)
      unfold rV at HPP
      have HB4 := Lib.hid (bnext HBF.out hb4)
      have HS4 := Lib.hid hb4.size
      clear hg4 hb4 hcr hap HX HBF
      go_upto_region 7 with (go_at_call 93; go_must (refine HPP.out.mono ?_; rintro e w5 ⟨v', J, rfl, hlr, hJ1, hJ2⟩; have HLR := Lib.hid hlr; have HJ1 := Lib.hid hJ1; have HJ2 := Lib.hid hJ2; clear hlr hJ1 hJ2))
      clear HPP
      have hcp := HLR.out.form
      have hown := HLR.out.own
      have hcell := HLR.out.cell
      have hBF : Below w.heap.size w w5 := keep_below2 HB4.out HLR.out.keep (Nat.le_refl _) (by have := HZ3.out; omega) (by omega)
      have HBF := Lib.hid hBF
      clear hBF
      obtain ⟨s', c', rfl⟩ := own_slice1 hown
      rw [Nat.zero_add] at hcp
      have HJ1' : Hid (b.length ≤ J * 7) := Lib.hid (by have := HJ1.out; omega)
      have c0 : w5.cell? ⟨w3.heap.size, 0, none⟩ = some (.slice sp b.length cp) := cell_row hcp.box 0
      have c1 : w5.cell? ⟨w3.heap.size, 1, none⟩ = some (.int .i64 ((J * 7 : Nat) : Int)) := cell_row hcp.box 1
      have c2 : w5.cell? ⟨w3.heap.size, 2, none⟩ = some (.bool (decide (b.length < J * 7))) := cell_row hcp.box 2
      have cx : w5.cell? ⟨w.heap.size + 1, 0, none⟩ = some (.slice s' J c') := cell_row hcell 0
      obtain ⟨m, hm⟩ : ∃ m, J * 7 = m := ⟨_, rfl⟩
      rw [hm] at c1 c2
      have HMM := Lib.hid hm
      by_cases hat : m = b.length
      · have hbd : decide (b.length < m) = false := by rw [decide_eq_false_iff_not]; omega
        rw [hbd] at c2
        have hatI : ((m : Int) != (b.length : Int)) = false := by simp [hat]
        have hdiv : b.length / 7 = J := by rw [← hat, ← hm]; exact Nat.mul_div_cancel _ (by decide)
        have hmod : b.length % 7 = 0 := by rw [← hat, ← hm]; exact Nat.mul_mod_left _ _
        have hokd : useRdOk l = usesMay (uses b 0 J) := by rw [HOKD.out, ho, hmod, hdiv]; simp
        have hrl : ReadAt w5 s' Usr.cells 3 (uses b 0 J) := by
          obtain ⟨A9, c9, e9, -, -, -, h9, -⟩ := own_rows (F := fun _ => False) Usr.cells_len hown (uses_len b 0 J).symm (fun _ _ => id)
          injection e9 with e9
          subst e9
          exact h9
        have hmy := usesMay_any (uses b 0 J) s' c' w5 hrl (by rw [uses_len]; have := HBL.out; omega)
        rw [uses_len] at hmy
        have HOK2 := Lib.hid hokd
        have HDIV := Lib.hid hdiv
        obtain ⟨q, hq⟩ : ∃ q, usesMay (uses b 0 J) = q := ⟨_, rfl⟩
        rw [hq] at hmy HOK2
        have HMY := Lib.hid hmy
        have HOWN := Lib.hid hown
        have HCELL := Lib.hid hcell
        clear hcp hown hcell hm hat hbd hdiv hmod hokd hrl hmy hq
        cases q with
        | true =>
          go_wp2_with (go_at_call 94; go_must (refine HMY.out.mono ?_; rintro e w6 ⟨rfl, hb6⟩; have cx6 : w6.cell? ⟨w.heap.size + 1, 0, none⟩ = some (.slice s' J c') := cell_row (old_heap HCELL.out hb6) 0; have HB6 := Lib.hid (bnext HBF.out hb6); have HO6 := Lib.hid (own_below HOWN.out hb6); clear hb6))
          go_ret2
          exact rlUsr_yes HOK2.out (by rw [HBE.out, HDIV.out]) rfl (by rw [uses_len]; exact own_low HO6.out (Nat.le_trans (by have := HZ3.out; omega) HS4.out)) HB6.out
        | false =>
          have HNO := HOK2
          go_wp2_with (go_at_call 94; go_must (refine HMY.out.mono ?_; rintro e w6 ⟨rfl, hb6⟩; have HB6 := Lib.hid (bnext HBF.out hb6); clear hb6))
          go_ret2
          exact rlUsr_no HNO.out rfl HB6.out
      · have hlt : b.length < m := by have := HJ1'.out; omega
        rw [decide_eq_true hlt] at c2
        have hno : useRdOk l = false := by
          have h1 : b.length % 7 ≠ 0 := by
            rcases HJ2.out with h | h
            · subst h; omega
            · have hJ0 : J ≠ 0 := fun e => by subst e; omega
              obtain ⟨j, rfl⟩ : ∃ j, J = j + 1 := ⟨J - 1, by omega⟩
              rw [Nat.add_sub_cancel, Nat.zero_add] at h
              exact mod_ne (j := j) (m := 7) h (by omega) (Nat.le_refl _)
          rw [HOKD.out, decide_eq_false h1]; simp
        have HNO := Lib.hid hno
        clear hcp hown hcell hm hat hlt hno
        go_wp2
        go_ret2
        exact rlUsr_no HNO.out rfl HBF.out
    · have hkk : ((k.toNat : Int) != 5) = true := kind_ne k 5 hk
      have hno : useRdOk l = false := by rw [HOKD.out]; simp [hk]
      have HNO := Lib.hid hno
      clear hk hno
      go_wp2
      go_ret2
      exact rlUsr_no HNO.out rfl HBF.out
set_option maxRecDepth 10000 in
set_option maxHeartbeats 4000000 in
theorem writeUses_any (L : List Usr) (A : Option Addr) (c : Nat) (w : World) (hR : ReadAt w A Usr.cells 3 L) (hA : ∀ a, A = some a → a.block < w.heap.size) (hok : ∀ x ∈ L, x.Ok) (hL : L.length ≤ 1000) :
    Calls Try.prog 41 #[.slice A L.length c] w (WrS w 5 (usesMay L && !fBad (useAll L)) (fB (useAll L))) := by
  have hb1 : Below w.heap.size w (w.alloc (.cells Try.zeroCells36 36 (0, 0))) := (Below.refl _ _).alloc (Nat.le_refl _) _
  have HWR := Lib.hid (wrs_use L A c _ (hR.below Usr.cells_len hb1) (fun a ha => Nat.lt_of_lt_of_le (hA a ha) hb1.size) hok hL)
  have HT1 := Lib.hid (heap_alloc_last w (.cells Try.zeroCells36 36 (0, 0)))
  have HB1 := Lib.hid hb1
  obtain ⟨ok, hok'⟩ : ∃ ok, (usesMay L && !fBad (useAll L)) = ok := ⟨_, rfl⟩
  obtain ⟨B, hB⟩ : ∃ B, fB (useAll L) = B := ⟨_, rfl⟩
  rw [hok', hB] at HWR
  rw [hok', hB]
  have hS : (bvs (wrS 5 ok B)).toArray.size = 128 := by rw [secV_size, wrS_length]
  have HSS := Lib.hid hS
  clear hb1 hR hA hok hok' hB hS
  unfold WrS at HWR
  go_enter Try.func41, Try.ntmps41
  go_upto_region 1 with fail
  revert HT1 HB1 HWR
  generalize w.alloc (.cells Try.zeroCells36 36 (0, 0)) = w1
  intro HT1 HB1 HWR
  go_wp2_with (first
    | (go_at_call 92; go_must (refine HWR.out.mono ?_; rintro e w2 ⟨rfl, hb2⟩; unfold secV; have HT2 := Lib.hid (old_heap HT1.out hb2); have HB2 := Lib.hid (bnext HB1.out hb2); clear hb2))
    | (refine wpList_store_row rfl 36 (.tmp 2) (.tmp 6) rfl w.heap.size zArr (bvs (wrS 5 ok B)).toArray 36 rfl rfl HT2.out (by rw [HSS.out]; exact size_sec) (by rw [HSS.out, zArr_size]) (sec_one _) ?_))
  have hld := run_loadVar_row (P := Try.prog) (w2.setRow w.heap.size (bvs (wrS 5 ok B)).toArray) w.heap.size 36 36 (bvs (wrS 5 ok B)).toArray (0, 0) _ (setRow_heap _ _ _ _ _ _ HT2.out) Try.underlying36 (by simp) (by rw [HSS.out]; exact size_sec)
  exact bodyPost_ret (v := .tuple #[secV (wrS 5 ok B), .int .i64 (wrE 5 ok B)]) (results_cell2 Try.results41 rfl rfl hld) rfl ⟨rfl, below_row HB2.out (Nat.le_refl _)⟩
set_option maxRecDepth 10000 in
set_option maxHeartbeats 4000000 in
theorem readUses_any (l : List UInt8) (w : World) (hl : l.length = 128) : Calls Try.prog 43 #[secV l] w (RlUsr w l) := by
  have HSZ : Hid ((bvs l).toArray.size = 128) := by unfold Hid; rw [secV_size, hl]
  have hb1 : Below w.heap.size w (w.alloc (.cells (bvs l).toArray 36 (0, 0))) := (Below.refl _ _).alloc (Nat.le_refl _) _
  have HG1 := Lib.hid (heap_alloc_last w (.cells (bvs l).toArray 36 (0, 0)))
  have HB1 := Lib.hid hb1
  have HRD := Lib.hid (rdl_use l (w.alloc (.cells (bvs l).toArray 36 (0, 0))) hl)
  unfold RlUsr secV at HRD
  obtain ⟨N, hN⟩ : ∃ N, (if useRdOk l then (0 : Int) else 21) = N := ⟨_, rfl⟩
  unfold RlUsr
  rw [hN] at HRD ⊢
  clear hb1 hl hN
  unfold secV
  go_enter Try.func43, Try.ntmps43
  go_upto_region 1 with fail
  revert HG1 HB1 HRD
  generalize w.alloc (.cells (bvs l).toArray 36 (0, 0)) = w1
  intro HG1 HB1 HRD
  go_wp2_with (first
    | (refine wpList_load_row rfl 36 (.tmp 1) rfl w.heap.size rfl _ _ _ _ HG1.out Try.underlying36 rfl (by rw [HSZ.out]; exact size_sec) ?_)
    | (go_at_call 96; go_must (refine HRD.out.mono ?_; rintro e w2 ⟨v', rfl, ho2, hb2⟩; have HO2 := Lib.hid ho2; have HB2 := Lib.hid (bnext HB1.out hb2); clear ho2 hb2)))
  go_ret2
  exact ⟨_, rfl, own_low HO2.out HB1.out.size, HB2.out⟩
end Go.Proofs.Ytcpfafmkhegckaa
/-
  Codec: lists of records.
-/
namespace Go.Proofs.Ytcpfafmkhegckaa
open Go.RowKit
set_option linter.unusedVariables false
set_option linter.unusedSimpArgs false
set_option linter.unnecessarySimpa false
structure Rcd where
  num : Nat
  ver : Nat
  links : Int
  kind : Int
structure Rcd.Ok (x : Rcd) : Prop where
  num : x.num < 2 ^ 32
  ver : x.ver < 2 ^ 32
  links : I64 x.links
  kind : I64 x.kind
def Rcd.cells (x : Rcd) : List Value := [.int .u32 (x.num : Int), .int .u32 (x.ver : Int), .int .i64 x.links, .int .i64 x.kind]
theorem Rcd.cells_len (x : Rcd) : x.cells.length = 4 := rfl
theorem Rcd.cells_one (x : Rcd) : ∀ u ∈ x.cells, u.oneCell' = true := by
  intro u hu
  simp only [Rcd.cells, List.mem_cons, List.not_mem_nil, or_false] at hu
  rcases hu with rfl | rfl | rfl | rfl <;> rfl
def recordL (x : Rcd) : List (Nat × Int) := [(2, (x.num : Int)), (4, (x.ver : Int)), (2, x.links), (1, x.kind)]
def recordAll (L : List Rcd) : List (Nat × Int) := L.flatMap recordL
theorem recordAll_snoc (L : List Rcd) (k : Nat) (x : Rcd) (h : L[k]? = some x) : recordAll (L.take (k + 1)) = recordAll (L.take k) ++ recordL x := by
  obtain ⟨hk, rfl⟩ := List.getElem?_eq_some_iff.1 h
  unfold recordAll
  rw [List.take_succ_eq_append_getElem hk, List.flatMap_append]; simp
theorem recordAll_len (L : List Rcd) : (fB (recordAll L)).length = 9 * L.length := by
  induction L with
  | nil => rfl
  | cons x r ih =>
    have h1 : recordAll (x :: r) = recordL x ++ recordAll r := by simp [recordAll]
    rw [h1, fB_append, List.length_append, ih, fB_len, List.length_cons]
    have h2 : ((recordL x).map (·.1)).sum = 9 := rfl
    rw [h2]; omega
def rrecord (l : List UInt8) (a : Nat) : Rcd := ⟨rN l a 2, rN l (a + 2) 4, (rN l ((a + 2) + 4) 2 : Int), (rN l (((a + 2) + 4) + 2) 1 : Int)⟩
theorem rrecord_ok (l : List UInt8) (a : Nat) : (rrecord l a).Ok := by
  have h := fun a k (hk : k ≤ 4) => Nat.lt_of_lt_of_le (rN_lt l a k) (Nat.pow_le_pow_right (n := 256) (by decide) hk)
  have hi : ∀ a k, k ≤ 4 → I64 (rN l a k : Int) := fun a k hk => by have := h a k hk; exact ⟨by omega, by omega⟩
  exact ⟨h _ _ (by decide), h _ _ (by decide), hi _ _ (by decide), hi _ _ (by decide)⟩
theorem infoRecord3 : (Try.prog.info? 204).map (fun i => (i.zero, i.size, i.bytes)) = some (some (.agg #[.int .u32 0, .int .u32 0, .int .i64 0, .int .i64 0]), 4, 24) := by kernel_rfl
theorem record_bad (l : List UInt8) (a : Nat) : (((((decide (l.length < a)) || !rOk l a 2) || !rOk l (a + 2) 4) || !rOk l ((a + 2) + 4) 2) || !rOk l (((a + 2) + 4) + 2) 1) = decide (l.length < a + 9) := by
  rw [bad_next l _ 2 (by decide), bad_next l _ 4 (by decide), bad_next l _ 2 (by decide), bad_next l _ 1 (by decide)]
/-- One of them, when it writes. -/
theorem pw_record' {w : World} {base g : Nat} {l : List UInt8} {bad : Bool} (x : Rcd) (hx : x.Ok) (pb po : Nat) (h : CwAt w base g l bad) (hr : w.rangeAt pb po x.cells) (hl : l.length ≤ 90000) (hbs : base ≤ w.heap.size) (hpb : pb < base) :
    Calls Try.prog 116 #[wV g, .pointer (some ⟨pb, po, none⟩)] w (CwTo w base g (l ++ fB (recordL x)) (bad || fBad (recordL x))) :=
  pw_record x.num x.ver x.links x.kind pb po h (hr 0 _ rfl) (hr 1 _ rfl) (hr 2 _ rfl) (hr 3 _ rfl) hx.num hx.ver hx.links hx.kind hl hbs hpb
/-- One of them, when it reads. -/
theorem pr_record' {w : World} {g a pb : Nat} {v : Value} {l : List UInt8} {bad : Bool} (h : CrAt w g v l a bad) (hbad : bad = decide (l.length < a)) (ha : a ≤ 900) (hl : l.length ≤ 1000) (hb : w.heap[pb]? = some (.cells #[.int .u32 0, .int .u32 0, .int .i64 0, .int .i64 0] 204 (0, 0))) (hpg : pb ≠ g) (hv : Apart (· = pb) v l) :
    Calls Try.prog 116 #[rV g, .pointer (some ⟨pb, 0, none⟩)] w fun e w' => e = .returned (.tuple #[]) ∧ CrPass w g v l (a + 9) (decide (l.length < a + 9)) pb (rrecord l a).cells.toArray 204 w' := by
  refine (pr_record pb 0 _ 204 0 0 0 0 h ha hl hb rfl rfl rfl rfl hpg hv).mono fun e w' ⟨h1, h2⟩ => ⟨h1, ?_⟩
  rw [hbad, record_bad] at h2
  exact h2
set_option maxRecDepth 10000 in
set_option maxHeartbeats 8000000 in
theorem lw_record {w : World} {base g : Nat} {l : List UInt8} {bad : Bool} (L : List Rcd) (A : Option Addr) (c : Nat) (pb po : Nat) (h : CwAt w base g l bad) (hc : w.cell? ⟨pb, po, none⟩ = some (.slice A L.length c)) (hR : ReadAt w A Rcd.cells 4 L)
    (hA : ∀ a, A = some a → a.block < base) (hpb : pb < base) (hok : ∀ x ∈ L, x.Ok) (hl : l.length ≤ 1000) (hL : L.length ≤ 1000) (hbs : base ≤ w.heap.size) :
    Calls Try.prog 115 #[wV g, .pointer (some ⟨pb, po, none⟩), .func (.func 116) #[] #[]] w (CwTo w base g (l ++ fB (recordAll L)) (bad || fBad (recordAll L))) := by
  have HW := Lib.hid (show CwAt w base g (l ++ fB (recordAll (L.take 0))) (bad || fBad (recordAll (L.take 0))) by simpa [recordAll, fB, fBad] using h)
  have HC := Lib.hid hc
  have HR := Lib.hid hR
  have HA := Lib.hid hA
  have HOK := Lib.hid hok
  have na_more := fun W => na_w ⟨g, 0, none⟩ W "drumlin/codec.more" (by simp)
  have mt_more := fun W => mw_more ⟨g, 0, none⟩ W
  clear h hR hA hok
  unfold wV
  unfold CwTo
  go_enter Try.func115, Try.ntmps115
  go_wp2
  clear hc
  go_loopw [12] (fun i wr => ∃ k : Nat, k ≤ L.length ∧ i = .int .i64 (k : Int) ∧ Hid (CwAt wr base g (l ++ fB (recordAll (L.take k))) (bad || fBad (recordAll (L.take k)))) ∧ Hid (Below base w wr)) (fun i _ => (L.length - intOf i).toNat)
  case atStart => exact ⟨0, by omega, rfl, HW, Lib.hid (Below.refl _ _)⟩
  case round =>
    obtain ⟨k, hk, rfl, HWk, HBk⟩ := hrel
    clear HW
    have hc := (HBk.out.cell (p := ⟨pb, po, none⟩) hpb).trans HC.out
    by_cases hlt : k < L.length
    · obtain ⟨x, hx⟩ : ∃ x, L[k]? = some x := ⟨_, List.getElem?_eq_getElem hlt⟩
      obtain ⟨b, o, rfl, hr⟩ := rows_at Rcd.cells_len HR.out hx
      have hbl := HA.out _ rfl
      dsimp only at hbl
      have hr2 : wr.rangeAt b (o + k * 4) x.cells := fun j u hu => (HBk.out.cell (p := ⟨b, o + k * 4 + j, none⟩) hbl).trans (hr j u hu)
      have hlen : (l ++ fB (recordAll (L.take k))).length ≤ 90000 := by
        rw [List.length_append, recordAll_len]
        have : (L.take k).length ≤ k := List.length_take_le _ _
        omega
      have HP := Lib.hid (pw_record' x (HOK.out x (List.mem_of_getElem? hx)) b (o + k * 4) HWk.out hr2 hlen (Nat.le_trans hbs HBk.out.size) hbl)
      unfold wV CwTo at HP
      have HX := Lib.hid hx
      clear hr hr2 hlen hx
      go_wp2_with (go_at_call 116; go_must (refine HP.out.mono ?_; rintro e w2 ⟨rfl, hcw, hb2⟩; have HW2 := Lib.hid hcw; have HB2 := Lib.hid (HBk.out.trans hb2); clear hcw hb2))
      have HW3 : Hid (CwAt w2 base g (l ++ fB (recordAll (L.take (k + 1)))) (bad || fBad (recordAll (L.take (k + 1))))) := Lib.hid (by
        rw [recordAll_snoc L k x HX.out, fB_append, fBad_append]
        have := HW2.out
        simpa [List.append_assoc, Bool.or_assoc] using this)
      clear HW2
      go_roundw
      case rel => exact ⟨k + 1, by omega, by go_num, HW3, HB2⟩
      case measure => simp [intOf]; omega
    · obtain rfl : k = L.length := by omega
      have ht : L.take L.length = L := List.take_length
      have hW := HWk.out
      rw [ht] at hW
      have HWL := Lib.hid hW
      clear hW ht HWk
      go_wp2
      obtain ⟨wo, rfl⟩ : ∃ wo : World, wo = wr := ⟨_, rfl⟩
      go_loopw [] (fun wr => Hid (wr = wo)) (fun _ => 0)
      case atStart => exact Lib.hid rfl
      case round =>
        have he := hrel.out
        subst he
        go_wp2_with (go_at_call 182; refine (cw_more _ _).mono ?_; rintro e wq ⟨rfl, rfl⟩)
        go_end0
        exact ⟨rfl, HWL.out, HBk.out⟩
def records (l : List UInt8) (a J : Nat) : List Rcd := (List.range J).map fun q => rrecord l (a + q * 9)
theorem records_snoc (l : List UInt8) (a J : Nat) : records l a (J + 1) = records l a J ++ [rrecord l (a + J * 9)] := by unfold records; rw [List.range_succ, List.map_append]; rfl
theorem records_len (l : List UInt8) (a J : Nat) : (records l a J).length = J := by simp [records]
/-- What a list that was read leaves. -/
structure LrRcd (w : World) (g : Nat) (v : Value) (l : List UInt8) (a pb po : Nat) (cs : Array Value) (T : TypeId) (v' : Value) (J : Nat) (w' : World) : Prop where
  form : CrAt w' g v l (a + J * 9) (decide (l.length < a + J * 9))
  cell : w'.heap[pb]? = some (.cells (cs.setIfInBounds po v') T (0, 0))
  own : w'.ownsRow w.heap.size 204 4 v' J (rowsOf Rcd.cells (records l a J))
  keep : Keep (fun b => b = g ∨ b = pb) w w'
set_option maxRecDepth 10000 in
set_option maxHeartbeats 8000000 in
theorem lr_record {w : World} {g : Nat} {v : Value} {l : List UInt8} (a pb po : Nat) (cs : Array Value) (T : TypeId) (h : CrAt w g v l a (decide (l.length < a))) (hl : l.length ≤ 255) (ha : a ≤ 400) (hb : w.heap[pb]? = some (.cells cs T (0, 0))) (hc : cs[po]? = some (.slice none 0 0)) (hpg : pb ≠ g) (hv : Apart (· = pb) v l) :
    Calls Try.prog 115 #[rV g, .pointer (some ⟨pb, po, none⟩), .func (.func 116) #[] #[]] w fun e w' => ∃ v' J, e = .returned (.tuple #[]) ∧ LrRcd w g v l a pb po cs T v' J w' ∧ l.length ≤ a + J * 9 ∧ (J = 0 ∨ a + (J - 1) * 9 < l.length) := by
  have hgl : g < w.heap.size := (Array.getElem?_eq_some_iff.1 h.box).1
  have hpl : pb < w.heap.size := (Array.getElem?_eq_some_iff.1 hb).1
  have c0 : w.cell? ⟨pb, po, none⟩ = some (.slice none 0 0) := (cell_row hb po).trans hc
  have na_more := fun W => na_r ⟨g, 0, none⟩ W "drumlin/codec.more" (by simp)
  have mt_more := fun W => mr_more ⟨g, 0, none⟩ W
  have hst : LrRcd w g v l a pb po cs T (.slice none 0 0) 0 w := ⟨by rw [Nat.zero_mul, Nat.add_zero]; exact h, by rw [set_same cs po _ hc]; exact hb, own_nilk _ _ _ _, Keep.refl _ w⟩
  have HST := Lib.hid hst
  have HC := Lib.hid hc
  have HV := Lib.hid hv
  have HVA := Lib.hid (byt_old h.byt)
  clear h hb hst hc hv
  unfold rV
  go_enter Try.func115, Try.ntmps115
  go_wp2
  go_loopw [12] (fun i wr => i = .int .i64 0 ∧ Hid (wr = w)) (fun _ _ => 0)
  case atStart => exact ⟨rfl, Lib.hid rfl⟩
  case round =>
    obtain ⟨rfl, he⟩ := hrel
    have he := he.out
    subst he
    go_wp2
    clear c0
    obtain ⟨wo, rfl⟩ : ∃ wo : World, wo = wr := ⟨_, rfl⟩
    go_loopw [] (fun wr => Hid (∃ v' J, LrRcd wo g v l a pb po cs T v' J wr ∧ a + J * 9 ≤ 800 ∧ (J = 0 ∨ a + (J - 1) * 9 < l.length))) (fun wr => (1000 - intOf ((wr.cell? ⟨g, 1, none⟩).getD undef)).toNat)
    case atStart => exact Lib.hid ⟨_, _, HST.out, by omega, .inl rfl⟩
    case round =>
      clear HST
      obtain ⟨v', J, hs, hJ, hJ2⟩ := hrel.out
      obtain ⟨s', c', rfl⟩ := own_slice1 hs.own
      have HAT : Hid (wr.cell? ⟨g, 1, none⟩ = some (.int .i64 ((a + J * 9 : Nat) : Int))) := Lib.hid (cell_row hs.form.box 1)
      have HS := Lib.hid hs
      have HM := Lib.hid (cr_more hs.form (by omega) (by omega))
      have hmb : (!decide (l.length < a + J * 9) && decide (a + J * 9 < l.length)) = decide (a + J * 9 < l.length) := by
        rw [Bool.eq_iff_iff]; simp; omega
      rw [hmb] at HM
      clear hs hmb
      by_cases hlt : a + J * 9 < l.length
      · rw [decide_eq_true hlt] at HM
        go_upto_region 6 with (go_at_call 186; refine HM.out.mono ?_; rintro e w1 ⟨rfl, nq, rfl⟩)
        have hk1 : Keep (fun b => b = g ∨ b = pb) wo (wr.drewN nq) := HS.out.keep.drewN nq
        have hf1 : CrAt (wr.drewN nq) g v l (a + J * 9) (decide (l.length < a + J * 9)) := ⟨HS.out.form.box, byt_keep (F := fun _ => False) HS.out.form.byt ((Keep.refl _ wr).drewN nq) (fun _ _ _ _ _ _ e => e), HS.out.form.apart⟩
        have hc1 : (wr.drewN nq).heap[pb]? = some (.cells (cs.setIfInBounds po (.slice s' J c')) T (0, 0)) := HS.out.cell
        have ho1 : (wr.drewN nq).ownsRow wo.heap.size 204 4 (.slice s' J c') J (rowsOf Rcd.cells (records l a J)) := HS.out.own
        revert hk1 hf1 hc1 ho1
        generalize wr.drewN nq = w1
        intro hk1 hf1 hc1 ho1
        have hba : Below w1.heap.size w1 (w1.alloc (.cells #[.int .u32 0, .int .u32 0, .int .i64 0, .int .i64 0] 204 (0, 0))) := (Below.refl _ _).alloc (Nat.le_refl _) _
        have hnew := heap_alloc_last w1 (.cells #[.int .u32 0, .int .u32 0, .int .i64 0, .int .i64 0] 204 (0, 0))
        have hf2 := hf1.below hba
        have hlt1 : g < w1.heap.size := (Array.getElem?_eq_some_iff.1 hf1.box).1
        have hlt2 : pb < w1.heap.size := (Array.getElem?_eq_some_iff.1 hc1).1
        have HP := Lib.hid (pr_record' hf2 rfl (by omega) (by omega) hnew (by omega) (byt_apart hf1.byt))
        unfold rV at HP
        have HK2 := Lib.hid (hk1.trans (Keep.of_below hba))
        have HC2 := Lib.hid (old_heap hc1 hba)
        have HO2 := Lib.hid (own_below ho1 hba)
        have HLT := Lib.hid (show g < w1.heap.size ∧ pb < w1.heap.size ∧ wo.heap.size ≤ w1.heap.size from ⟨hlt1, hlt2, hk1.size⟩)
        have HOL := Lib.hid (own_block_lt ho1)
        clear hf1 hf2 hc1 ho1 hba hnew hk1 HM HS hrel
        go_upto_region 8 with (go_at_call 116; go_must (refine HP.out.mono ?_; rintro e w2 ⟨rfl, hcp⟩; have HCP := Lib.hid hcp; clear hcp))
        clear HP
        have hK3 : Keep (fun b => b = g ∨ b = pb) wo w2 := HK2.out.trans' HCP.out.keep (fun i hi hf => by rcases hf with e | e; exact .inl e; have := HLT.out.2.2; omega)
        have hC3 : w2.heap[pb]? = some (.cells (cs.setIfInBounds po (.slice s' J c')) T (0, 0)) := HCP.out.keep.heap HC2.out (by have := HLT.out; omega)
        have hO3 : w2.ownsRow wo.heap.size 204 4 (.slice s' J c') J (rowsOf Rcd.cells (records l a J)) := own_move HO2.out (fun k hk => HCP.out.keep.block k (own_block_lt HO2.out k hk) (by have h1 := (HO2.out.lt k hk).1; have h2 := HOL.out k hk; omega))
        have hXC := HCP.out.cell
        have hpc : w2.cell? ⟨pb, po, none⟩ = some (.slice s' J c') := (cell_row hC3 po).trans (set_at cs po _ _ HC.out)
        have hpf := free_row hC3 po
        have x0 : w2.cell? ⟨w1.heap.size, 0, none⟩ = some (.int .u32 (rN l ((a + J * 9)) 2 : Int)) := cell_row hXC 0
        have x1 : w2.cell? ⟨w1.heap.size, 1, none⟩ = some (.int .u32 (rN l (((a + J * 9) + 2)) 4 : Int)) := cell_row hXC 1
        have x2 : w2.cell? ⟨w1.heap.size, 2, none⟩ = some (.int .i64 (rN l ((((a + J * 9) + 2) + 4)) 2 : Int)) := cell_row hXC 2
        have x3 : w2.cell? ⟨w1.heap.size, 3, none⟩ = some (.int .i64 (rN l (((((a + J * 9) + 2) + 4) + 2)) 1 : Int)) := cell_row hXC 3
        have hlt2 : pb < w2.heap.size := (Array.getElem?_eq_some_iff.1 hC3).1
        have hltX : w1.heap.size < w2.heap.size := (Array.getElem?_eq_some_iff.1 hXC).1
        have hneq : ∀ k, Value.ownBlock (.slice s' J c') = some k → k ≠ pb ∧ k ≠ w1.heap.size ∧ wo.heap.size ≤ k := fun k hk => by
          have h1 := (HO2.out.lt k hk).1
          have h2 := HOL.out k hk
          exact ⟨by omega, by omega, h1⟩
        have hHS : (fun w' : World => w'.cell? ⟨pb, po, none⟩ = some (.slice s' J c') ∧ w'.frozen? ⟨pb, po, none⟩ = false ∧ w'.cell? ⟨w1.heap.size, 0, none⟩ = some (.int .u32 (rN l ((a + J * 9)) 2 : Int)) ∧ w'.cell? ⟨w1.heap.size, 1, none⟩ = some (.int .u32 (rN l (((a + J * 9) + 2)) 4 : Int)) ∧ w'.cell? ⟨w1.heap.size, 2, none⟩ = some (.int .i64 (rN l ((((a + J * 9) + 2) + 4)) 2 : Int)) ∧ w'.cell? ⟨w1.heap.size, 3, none⟩ = some (.int .i64 (rN l (((((a + J * 9) + 2) + 4) + 2)) 1 : Int))) w2.drew := ⟨hpc, hpf, x0, x1, x2, x3⟩
        have hkp : ∀ w' : World, w'.heap[pb]? = w2.heap[pb]? → w'.heap[w1.heap.size]? = w2.heap[w1.heap.size]? → (fun w' : World => w'.cell? ⟨pb, po, none⟩ = some (.slice s' J c') ∧ w'.frozen? ⟨pb, po, none⟩ = false ∧ w'.cell? ⟨w1.heap.size, 0, none⟩ = some (.int .u32 (rN l ((a + J * 9)) 2 : Int)) ∧ w'.cell? ⟨w1.heap.size, 1, none⟩ = some (.int .u32 (rN l (((a + J * 9) + 2)) 4 : Int)) ∧ w'.cell? ⟨w1.heap.size, 2, none⟩ = some (.int .i64 (rN l ((((a + J * 9) + 2) + 4)) 2 : Int)) ∧ w'.cell? ⟨w1.heap.size, 3, none⟩ = some (.int .i64 (rN l (((((a + J * 9) + 2) + 4) + 2)) 1 : Int))) w' := fun w' e1 e2 => ⟨(cell_row (e1.trans hC3) po).trans (set_at cs po _ _ HC.out), free_row (e1.trans hC3) po, cell_row (e2.trans hXC) 0, cell_row (e2.trans hXC) 1, cell_row (e2.trans hXC) 2, cell_row (e2.trans hXC) 3⟩
        have HKP := Lib.hid hkp
        have hAl : Below w2.heap.size w2 (w2.drew.alloc (.cells (rrecord l (a + J * 9)).cells.toArray 204 (0, 0))) := (Below.refl _ w2).drew.alloc (Nat.le_refl _) _
        have HAL := Lib.hid hAl
        have HHS := Lib.hid hHS
        have HK3 := Lib.hid hK3
        have HC3 := Lib.hid hC3
        have HO3 := Lib.hid (hO3 : w2.drew.ownsRow wo.heap.size 204 4 (.slice s' J c') J (rowsOf Rcd.cells (records l a J)))
        have HNEQ := Lib.hid hneq
        have HF3 := Lib.hid HCP.out.form
        have hJb : J ≤ 800 := by omega
        have hwoL := HLT.out.2.2
        clear hpc hpf x0 x1 x2 x3 hK3 hC3 hO3 hXC hneq hHS hkp hAl HC2 HO2 HK2 HCP
        refine wp_region_F (S := (fun w' => w'.cell? ⟨pb, po, none⟩ = some (.slice s' J c') ∧ w'.frozen? ⟨pb, po, none⟩ = false ∧ w'.cell? ⟨w1.heap.size, 0, none⟩ = some (.int .u32 (rN l ((a + J * 9)) 2 : Int)) ∧ w'.cell? ⟨w1.heap.size, 1, none⟩ = some (.int .u32 (rN l (((a + J * 9) + 2)) 4 : Int)) ∧ w'.cell? ⟨w1.heap.size, 2, none⟩ = some (.int .i64 (rN l ((((a + J * 9) + 2) + 4)) 2 : Int)) ∧ w'.cell? ⟨w1.heap.size, 3, none⟩ = some (.int .i64 (rN l (((((a + J * 9) + 2) + 4) + 2)) 1 : Int)))) 8 (by kernel_rfl) (by exact HHS.out) (fun hHeld => ?_)
        refine take1F (i := 0) (v := ?_) (a' := ?_) (some 29) #[true, false, false, false, false, false, false, false, false] rfl rfl (by kernel_rfl) (fun _ _ _ h => h) (Or.inl ⟨by rfl, ?_⟩) hHeld ?_ ?_
        rotate_left
        · (intro w hSw; (try dsimp only at hSw); obtain ⟨hpc, hpf, x0, x1, x2, x3⟩ := hSw; go_simp; (try with_reducible rfl))
        rotate_left
        · simp only [Act.put, List.setIfInBounds_toArray, List.set_cons_zero, List.set_cons_succ]
          rfl
        refine take1F (i := 1) (v := ?_) (a' := ?_) (some 30) #[true, true, false, false, false, false, false, false, false] rfl rfl (by kernel_rfl) (fun _ _ _ h => h) (Or.inl ⟨by rfl, ?_⟩) hHeld ?_ ?_
        rotate_left
        · (intro w hSw; (try dsimp only at hSw); obtain ⟨hpc, hpf, x0, x1, x2, x3⟩ := hSw; go_simp; (try with_reducible rfl))
        rotate_left
        · simp only [Act.put, List.setIfInBounds_toArray, List.set_cons_zero, List.set_cons_succ]
          rfl
        refine take1F (i := 2) (v := ?_) (a' := ?_) (some 31) #[true, true, true, false, false, false, false, false, false] rfl rfl (by kernel_rfl) (fun _ _ _ h => h) (Or.inl ⟨by rfl, ?_⟩) hHeld ?_ ?_
        rotate_left
        · (intro w hSw; (try dsimp only at hSw); obtain ⟨hpc, hpf, x0, x1, x2, x3⟩ := hSw; go_simp; (try with_reducible rfl))
        rotate_left
        · simp only [Act.put, List.setIfInBounds_toArray, List.set_cons_zero, List.set_cons_succ]
          rfl
        refine take1F (i := 3) (v := ?_) (a' := ?_) (some 32) #[true, true, true, true, false, false, false, false, false] rfl rfl (by kernel_rfl) (fun _ _ _ h => h) (Or.inl ⟨by rfl, ?_⟩) hHeld ?_ ?_
        rotate_left
        · (intro w hSw; (try dsimp only at hSw); obtain ⟨hpc, hpf, x0, x1, x2, x3⟩ := hSw; go_simp; (try with_reducible rfl))
        rotate_left
        · simp only [Act.put, List.setIfInBounds_toArray, List.set_cons_zero, List.set_cons_succ]
          rfl
        refine take1F (i := 4) (v := ?_) (a' := ?_) (some 33) #[true, true, true, true, true, false, false, false, false] rfl rfl (by kernel_rfl) (fun _ _ _ h => h) (Or.inl ⟨by rfl, ?_⟩) hHeld ?_ ?_
        rotate_left
        · (intro w hSw; (try dsimp only at hSw); obtain ⟨hpc, hpf, x0, x1, x2, x3⟩ := hSw; go_simp; (try with_reducible rfl))
        rotate_left
        · simp only [Act.put, List.setIfInBounds_toArray, List.set_cons_zero, List.set_cons_succ]
          rfl
        refine loud1F (i := 5) (some 34) #[true, true, true, true, true, true, false, false, false] rfl rfl (by kernel_rfl) (fun K hK => ?_)
        go_simp
        skip
        refine hK.out _ _ (by first | exact HKP.out _ (HAL.out.block pb hlt2) (HAL.out.block _ hltX) | exact HKP.out _ ((HG4.out.block pb (Nat.lt_of_lt_of_le hlt2 HAL.out.size) (fun e => (HNEQ.out pb e.symm).1 rfl)).trans (HAL.out.block pb hlt2)) ((HG4.out.block _ (Nat.lt_of_lt_of_le hltX HAL.out.size) (fun e => (HNEQ.out _ e.symm).2.1 rfl)).trans (HAL.out.block _ hltX))) (fun hHeld' => ?_)
        clear hK K hHeld
        have hHeld := hHeld'
        clear hHeld'
        try simp only [Act.put, List.setIfInBounds_toArray, List.set_cons_zero, List.set_cons_succ]
        refine loud1F (i := 6) (some 35) #[true, true, true, true, true, true, true, false, false] rfl rfl (by kernel_rfl) (fun K hK => ?_)
        (refine step_append_rd (by rfl) (.tmp 32) (.tmp 34) 130 (by rfl) wo.heap.size 204 (.agg #[.int .u32 0, .int .u32 0, .int .i64 0, .int .i64 0]) 4 24 Try.underlying130 infoRecord3 rfl (by decide) _ _ _ (by rfl) (HO3.out.alloc _) _ 1 (rrecord l (a + J * 9)).cells (by rfl) (rd_row (heap_alloc_last w2.drew (.cells (rrecord l (a + J * 9)).cells.toArray 204 (0, 0))) rfl 1) (Rcd.cells_one _) (by omega) (by decide) (by simp; omega) ?_; intro v4 w4 hown4 hbel4 hg4; obtain ⟨s4, c4, rfl⟩ := own_slice1 hown4; have HO4 := Lib.hid hown4; have HB4 := Lib.hid hbel4; have HG4 := Lib.hid hg4; clear hown4 hbel4 hg4)
        refine hK.out _ _ (by first | exact HKP.out _ (HAL.out.block pb hlt2) (HAL.out.block _ hltX) | exact HKP.out _ ((HG4.out.block pb (Nat.lt_of_lt_of_le hlt2 HAL.out.size) (fun e => (HNEQ.out pb e.symm).1 rfl)).trans (HAL.out.block pb hlt2)) ((HG4.out.block _ (Nat.lt_of_lt_of_le hltX HAL.out.size) (fun e => (HNEQ.out _ e.symm).2.1 rfl)).trans (HAL.out.block _ hltX))) (fun hHeld' => ?_)
        clear hK K hHeld
        have hHeld := hHeld'
        clear hHeld'
        try simp only [Act.put, List.setIfInBounds_toArray, List.set_cons_zero, List.set_cons_succ]
        refine take1F (i := 7) (v := ?_) (a' := ?_) (some 36) #[true, true, true, true, true, true, true, true, false] rfl rfl (by kernel_rfl) (fun _ _ _ h => h) (Or.inl ⟨by rfl, ?_⟩) hHeld ?_ ?_
        rotate_left
        · (intro w hSw; (try dsimp only at hSw); obtain ⟨hpc, hpf, x0, x1, x2, x3⟩ := hSw; go_simp; (try with_reducible rfl))
        rotate_left
        · simp only [Act.put, List.setIfInBounds_toArray, List.set_cons_zero, List.set_cons_succ]
          rfl
        refine last1F (none) #[true, true, true, true, true, true, true, true, true] rfl rfl (by kernel_rfl) (fun K hK => ?_)
        (obtain ⟨hpc, hpf, x0, x1, x2, x3⟩ := hHeld; go_simp)
        refine hK.out _ _ ?_
        clear hK K
        try simp only [Act.put, List.setIfInBounds_toArray, List.set_cons_zero, List.set_cons_succ]
        refine wpAnyF_done (by kernel_rfl) ?_ _
        have hb24 : Below wo.heap.size w2 w4 := (HAL.out.mono (Nat.le_of_lt (Nat.lt_of_le_of_lt hwoL hltX))).trans HB4.out
        have hkF : Keep (fun b => b = pb ∨ wo.heap.size ≤ b) w2 (w4.setCell ⟨pb, po, none⟩ (.slice s4 (J + 1) c4)) := (keepF hb24).setCell pb po _ (.inl rfl)
        have heq : a + (J + 1) * 9 = a + J * 9 + 9 := by omega
        have hC4 : w4.heap[pb]? = some (.cells (cs.setIfInBounds po (.slice s' J c')) T (0, 0)) := (hb24.block pb hpl).trans HC3.out
        have hown := HO4.out
        rw [← rowsOf_snoc, ← records_snoc] at hown
        have hnew : LrRcd wo g v l a pb po cs T (.slice s4 (J + 1) c4) (J + 1) (w4.setCell ⟨pb, po, none⟩ (.slice s4 (J + 1) c4)) := by
          refine ⟨?_, ?_, ?_, ?_⟩
          · rw [heq]
            exact ⟨hkF.heap HF3.out.box (by omega), byt_keep HF3.out.byt hkF (fun hne b o n c e f => by rcases f with f | f; exact HV.out hne b o n c e f; exact HVA.out hne b o n c e f), HF3.out.apart⟩
          · have := head_set hC4 po (.slice s4 (J + 1) c4)
            rw [set_set2] at this
            exact this
          · exact own_move hown (fun k hk => Below.heap_setCell _ ⟨pb, po, none⟩ _ k (by have := (hown.lt k hk).1; show k ≠ pb; omega))
          · exact HK3.out.trans' hkF (fun i hi hf => by rcases hf with e | e; exact .inr e; omega)
        have hat1 : (w4.setCell ⟨pb, po, none⟩ (.slice s4 (J + 1) c4)).cell? ⟨g, 1, none⟩ = some (.int .i64 ((a + (J + 1) * 9 : Nat) : Int)) := cell_row hnew.form.box 1
        have hat0 : wr.cell? ⟨g, 1, none⟩ = some (.int .i64 ((a + J * 9 : Nat) : Int)) := HAT.out
        have HNEW := Lib.hid hnew
        have HAT1 := Lib.hid hat1
        have HAT0 := Lib.hid hat0
        clear hb24 hkF heq hC4 hown hnew hat1 hat0 HO4 HB4 HG4 HC3 HO3 HK3 HF3 HHS HKP HAL
        revert HNEW HAT1
        generalize w4.setCell ⟨pb, po, none⟩ (.slice s4 (J + 1) c4) = w5
        intro HNEW HAT1
        go_wp2
        go_roundw
        case rel => exact Lib.hid ⟨_, J + 1, HNEW.out, by omega, .inr (by rw [Nat.add_sub_cancel]; exact hlt)⟩
        case measure => rw [HAT1.out, HAT0.out]; simp [intOf]; omega
      · rw [decide_eq_false hlt] at HM
        have hlt3 : l.length ≤ a + J * 9 := by omega
        go_wp2_with (go_at_call 186; refine HM.out.mono ?_; rintro e w1 ⟨rfl, nq, rfl⟩)
        go_end0
        exact ⟨_, J, rfl, ⟨⟨HS.out.form.box, byt_keep (F := fun _ => False) HS.out.form.byt ((Keep.refl _ wr).drewN nq) (fun _ _ _ _ _ _ e => e), HS.out.form.apart⟩, HS.out.cell, HS.out.own, HS.out.keep.drewN nq⟩, hlt3, hJ2⟩
end Go.Proofs.Ytcpfafmkhegckaa
/-
  Codec: lists of records: may they be, as sectors, and back.
-/
namespace Go.Proofs.Ytcpfafmkhegckaa
open Go.RowKit
set_option linter.unusedVariables false
set_option linter.unusedSimpArgs false
set_option linter.unnecessarySimpa false
def recordMay (x : Rcd) : Bool := decide (0 ≤ x.kind ∧ x.kind ≤ 2)
set_option maxRecDepth 10000 in
set_option maxHeartbeats 4000000 in
theorem recordMay_any (x : Rcd) (w : World) : Calls Try.prog 118 #[.agg x.cells.toArray] w fun e w' => e = .returned (.bool (recordMay x)) ∧ Below w.heap.size w w' := by
  obtain ⟨y0, y1, y2, y3⟩ := x
  have hc : (Rcd.mk y0 y1 y2 y3).cells.toArray = #[.int .u32 (y0 : Int), .int .u32 (y1 : Int), .int .i64 y2, .int .i64 y3] := rfl
  rw [hc]
  have HA := fun w' => Lib.hid (among_any y3 0 2 w')
  obtain ⟨m, hm⟩ : ∃ m, recordMay ⟨y0, y1, y2, y3⟩ = m := ⟨_, rfl⟩
  have hm' : decide (0 ≤ y3 ∧ y3 ≤ 2) = m := hm
  rw [hm'] at HA
  rw [hm]
  have HB := Lib.hid (show Below w.heap.size w (w.alloc (.cells #[.int .u32 (y0 : Int), .int .u32 (y1 : Int), .int .i64 y2, .int .i64 y3] 204 (0, 0))) from (Below.refl _ _).alloc (Nat.le_refl _) _)
  clear hm hm' hc
  go_enter Try.func118, Try.ntmps118
  go_wp2_with (go_at_call 119; refine (HA _).out.mono ?_; rintro e w' ⟨rfl, rfl⟩)
  go_ret
  exact ⟨rfl, HB.out⟩
/-- May all of them be, and are they few enough? -/
def recordsMay (L : List Rcd) : Bool := L.all recordMay && decide (L.length ≤ 13)
set_option maxRecDepth 10000 in
set_option maxHeartbeats 8000000 in
theorem recordEach_any (L : List Rcd) (A : Option Addr) (c p1 p2 : Nat) (w : World) (hf : w.cell? ⟨p1, 0, none⟩ = some (.func (.func 118) #[] #[])) (hm : w.cell? ⟨p2, 0, none⟩ = some (.int .i64 13)) (hR : ReadAt w A Rcd.cells 4 L) (hL : L.length ≤ 140737488355328) :
    Calls Try.prog 152 #[.slice A L.length c, .pointer (some ⟨p1, 0, none⟩), .pointer (some ⟨p2, 0, none⟩)] w fun e w' => e = .returned (.bool (recordsMay L)) ∧ Below w.heap.size w w' := by
  have hp1 := World.block_lt_of_cell? w _ hf
  have hp2 := World.block_lt_of_cell? w _ hm
  dsimp only at hp1 hp2
  have HF := Lib.hid hf
  have HM := Lib.hid hm
  have HR := Lib.hid hR
  have HMA := fun x W => Lib.hid (recordMay_any x W)
  clear hf hm hR
  go_enter Try.func152, Try.ntmps152
  go_wp2
  go_loopw [9] (fun i wr => ∃ k : Nat, k ≤ L.length ∧ i = .int .i64 (k : Int) ∧ Hid ((L.take k).all recordMay = true) ∧ Hid (Below w.heap.size w wr)) (fun i _ => (L.length - intOf i).toNat)
  case atStart => exact ⟨0, by omega, rfl, Lib.hid rfl, Lib.hid (Below.refl _ _)⟩
  case round =>
    obtain ⟨k, hk, rfl, HK, HB⟩ := hrel
    have hf := (HB.out.cell (p := ⟨p1, 0, none⟩) hp1).trans HF.out
    have hm := (HB.out.cell (p := ⟨p2, 0, none⟩) hp2).trans HM.out
    by_cases hlt : k < L.length
    · obtain ⟨x, hx⟩ : ∃ x, L[k]? = some x := ⟨_, List.getElem?_eq_getElem hlt⟩
      obtain ⟨b, o, rfl, hr⟩ := rows_at Rcd.cells_len HR.out hx
      have hbl : b < w.heap.size := World.block_lt_of_cell? w ⟨b, o + k * 4 + 0, none⟩ (hr 0 _ rfl)
      have hr2 : wr.rangeAt b (o + k * 4) x.cells := fun j u hu => (HB.out.cell (p := ⟨b, o + k * 4 + j, none⟩) hbl).trans (hr j u hu)
      have HX := Lib.hid hx
      obtain ⟨y0, y1, y2, y3⟩ := x
      have e0 : wr.cell? ⟨b, o + k * 4, none⟩ = some (.int .u32 (y0 : Int)) := hr2 0 _ rfl
      have e1 : wr.cell? ⟨b, o + k * 4 + 1, none⟩ = some (.int .u32 (y1 : Int)) := hr2 1 _ rfl
      have e2 : wr.cell? ⟨b, o + k * 4 + 2, none⟩ = some (.int .i64 y2) := hr2 2 _ rfl
      have e3 : wr.cell? ⟨b, o + k * 4 + 3, none⟩ = some (.int .i64 y3) := hr2 3 _ rfl
      have hmx := fun W => (HMA ⟨y0, y1, y2, y3⟩ W)
      have hcc : (Rcd.mk y0 y1 y2 y3).cells.toArray = #[.int .u32 (y0 : Int), .int .u32 (y1 : Int), .int .i64 y2, .int .i64 y3] := rfl
      obtain ⟨q, hq⟩ : ∃ q, recordMay ⟨y0, y1, y2, y3⟩ = q := ⟨_, rfl⟩
      simp only [hcc, hq] at hmx
      have HQ := Lib.hid hq
      have hba : Below wr.heap.size wr (wr.alloc (.cells #[.int .u32 (y0 : Int), .int .u32 (y1 : Int), .int .i64 y2, .int .i64 y3] 204 (0, 0))) := (Below.refl _ _).alloc (Nat.le_refl _) _
      have HBA := Lib.hid (HB.out.trans (hba.mono HB.out.size))
      have hf2 := (hba.cell (p := ⟨p1, 0, none⟩) (Nat.lt_of_lt_of_le hp1 HB.out.size)).trans hf
      have hm2 := (hba.cell (p := ⟨p2, 0, none⟩) (Nat.lt_of_lt_of_le hp2 HB.out.size)).trans hm
      clear hr hr2 hx hcc hq hba
      cases q with
      | true =>
        go_wp2_with (go_at_call 118; go_must (refine (hmx _).out.mono ?_; rintro e w2 ⟨rfl, hb2⟩; have HB2 := Lib.hid (HBA.out.trans (hb2.mono HBA.out.size)); clear hb2))
        have HK2 : Hid ((L.take (k + 1)).all recordMay = true) := Lib.hid (by
          obtain ⟨hk3, e3⟩ := List.getElem?_eq_some_iff.1 HX.out
          rw [List.take_succ_eq_append_getElem hk3, List.all_append, HK.out, e3]
          simp [HQ.out])
        go_roundw
        case rel => exact ⟨k + 1, by omega, by go_num, HK2, HB2⟩
        case measure => simp [intOf]; omega
      | false =>
        have hno : recordsMay L = false := by
          unfold recordsMay
          have : L.all recordMay = false := by rw [List.all_eq_false]; exact ⟨_, List.mem_of_getElem? HX.out, by rw [HQ.out]; simp⟩
          rw [this]; rfl
        have HNO := Lib.hid hno
        clear hno
        go_wp2_with (go_at_call 118; go_must (refine (hmx _).out.mono ?_; rintro e w2 ⟨rfl, hb2⟩; have HB2 := Lib.hid (HBA.out.trans (hb2.mono HBA.out.size)); clear hb2))
        go_ret
        exact ⟨by rw [HNO.out]; rfl, HB2.out⟩
    · obtain rfl : k = L.length := by omega
      have hall := HK.out
      rw [List.take_length] at hall
      have hyes : recordsMay L = decide ((L.length : Int) ≤ 13) := by unfold recordsMay; rw [hall, Bool.true_and, decide_eq_decide]; omega
      have HYES := Lib.hid hyes
      clear hall hyes
      go_wp2
      go_ret
      exact ⟨by rw [HYES.out]; rfl, HB.out⟩
set_option maxRecDepth 10000 in
set_option maxHeartbeats 4000000 in
theorem recordsEach_any (f : Value) (hf1 : f.oneCell' = true) (w : World) : Calls Try.prog 117 #[.int .i64 13, f] w fun e w' => e = .returned (.func (.func 152) #[] #[.pointer (some ⟨w.heap.size + 1, 0, none⟩), .pointer (some ⟨w.heap.size, 0, none⟩)]) ∧ w' = (w.alloc (.cells #[.int .i64 13] 3 (0, 0))).alloc (.cells #[f] 207 (0, 0)) := by
  have hmf : ∀ (fn : Fn) (first cap : Array Value) (w : World), (Instr.makeFunc fn first cap).run Try.prog w = .ok (.func fn first cap) w := fun _ _ _ _ => rfl
  go_enter Try.func117, Try.ntmps117
  go_wp2
  go_ret
  exact ⟨rfl, rfl⟩
set_option maxRecDepth 10000 in
set_option maxHeartbeats 4000000 in
theorem recordsMay_any (L : List Rcd) (A : Option Addr) (c : Nat) (w : World) (hR : ReadAt w A Rcd.cells 4 L) (hL : L.length ≤ 140737488355328) :
    Calls Try.prog 64 #[.slice A L.length c] w fun e w' => e = .returned (.bool (recordsMay L)) ∧ Below w.heap.size w w' := by
  have hb2 : Below w.heap.size w ((w.alloc (.cells #[.int .i64 13] 3 (0, 0))).alloc (.cells #[.func (.func 118) #[] #[]] 207 (0, 0))) := ((Below.refl _ _).alloc (Nat.le_refl _) _).alloc (by simp) _
  have hG2 := old_heap (heap_alloc_last w (.cells #[.int .i64 13] 3 (0, 0))) ((Below.refl _ _).alloc (Nat.le_refl _) (.cells #[.func (.func 118) #[] #[]] 207 (0, 0)))
  have hT2 := heap_alloc_last (w.alloc (.cells #[.int .i64 13] 3 (0, 0))) (.cells #[.func (.func 118) #[] #[]] 207 (0, 0))
  rw [show (w.alloc (.cells #[.int .i64 13] 3 (0, 0))).heap.size = w.heap.size + 1 by simp] at hT2
  have HE := Lib.hid (recordsEach_any (.func (.func 118) #[] #[]) rfl w)
  have HM := Lib.hid (recordEach_any L A c (w.heap.size + 1) w.heap.size _ (cell_row hT2 0) (cell_row hG2 0) (hR.below Rcd.cells_len hb2) hL)
  have HB := Lib.hid hb2
  clear hb2 hG2 hT2 hR
  revert HE HM HB
  generalize hw2 : (w.alloc (.cells #[.int .i64 13] 3 (0, 0))).alloc (.cells #[.func (.func 118) #[] #[]] 207 (0, 0)) = w2
  intro HE HM HB
  have HW := Lib.hid hw2
  clear hw2
  go_enter Try.func64, Try.ntmps64
  go_wp2_with (first
    | (go_at_call 117; go_must (refine HE.out.mono ?_; rintro e w3 ⟨rfl, rfl⟩))
    | (go_at_call 152; go_must (refine HM.out.mono ?_; rintro e w4 ⟨rfl, hb4⟩; have HB4 := Lib.hid (bnext HB.out hb4); clear hb4)))
  go_ret
  exact ⟨rfl, HB4.out⟩
/-- The pass of a list. -/
theorem pw_records {w : World} {base g : Nat} {l : List UInt8} {bad : Bool} (L : List Rcd) (A : Option Addr) (c : Nat) (pb po : Nat) (h : CwAt w base g l bad) (hc : w.cell? ⟨pb, po, none⟩ = some (.slice A L.length c)) (hR : ReadAt w A Rcd.cells 4 L)
    (hA : ∀ a, A = some a → a.block < base) (hpb : pb < base) (hok : ∀ x ∈ L, x.Ok) (hl : l.length ≤ 1000) (hL : L.length ≤ 1000) (hbs : base ≤ w.heap.size) :
    Calls Try.prog 63 #[wV g, .pointer (some ⟨pb, po, none⟩)] w (CwTo w base g (l ++ fB (recordAll L)) (bad || fBad (recordAll L))) := by
  have HL := Lib.hid (lw_record L A c pb po h hc hR hA hpb hok hl hL hbs)
  unfold CwTo at HL ⊢
  clear h hc hR
  unfold wV at HL ⊢
  go_enter Try.func63, Try.ntmps63
  go_wp2_with (go_at_call 115; go_must (refine HL.out.mono ?_; rintro e w2 ⟨rfl, h2⟩; have H2 := Lib.hid h2; clear h2))
  go_end0
  exact ⟨rfl, H2.out⟩
theorem pr_records {w : World} {g : Nat} {v : Value} {l : List UInt8} (a pb po : Nat) (cs : Array Value) (T : TypeId) (h : CrAt w g v l a (decide (l.length < a))) (hl : l.length ≤ 255) (ha : a ≤ 400) (hb : w.heap[pb]? = some (.cells cs T (0, 0))) (hc : cs[po]? = some (.slice none 0 0)) (hpg : pb ≠ g) (hv : Apart (· = pb) v l) :
    Calls Try.prog 63 #[rV g, .pointer (some ⟨pb, po, none⟩)] w fun e w' => ∃ v' J, e = .returned (.tuple #[]) ∧ LrRcd w g v l a pb po cs T v' J w' ∧ l.length ≤ a + J * 9 ∧ (J = 0 ∨ a + (J - 1) * 9 < l.length) := by
  have HL := Lib.hid (lr_record a pb po cs T h hl ha hb hc hpg hv)
  clear h hb hc hv
  unfold rV at HL ⊢
  go_enter Try.func63, Try.ntmps63
  go_wp2_with (go_at_call 115; go_must (refine HL.out.mono ?_; rintro e w2 ⟨v', J, rfl, h2⟩; have H2 := Lib.hid h2; clear h2))
  go_end0
  exact ⟨v', J, rfl, H2.out⟩
end Go.Proofs.Ytcpfafmkhegckaa
