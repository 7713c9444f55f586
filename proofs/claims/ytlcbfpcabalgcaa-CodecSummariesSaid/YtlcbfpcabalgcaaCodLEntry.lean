/-
  Codec: lists of entrys.
-/
import Derived.Test.YtlcbfpcabalgcaaCodD
import Derived.Test.YtlcbfpcabalgcaaCodG
import Derived.Test.YtlcbfpcabalgcaaRegF
import Derived.Test.YtlcbfpcabalgcaaCodRw
namespace Go.Proofs.Ytlcbfpcabalgcaa
open Go.RowKit
set_option linter.unusedVariables false
set_option linter.unusedSimpArgs false
set_option linter.unnecessarySimpa false
structure Ent5 where
  kind : Int
  num : Nat
  ver : Nat
  idx : Int
structure Ent5.Ok (x : Ent5) : Prop where
  kind : I64 x.kind
  num : x.num < 2 ^ 32
  ver : x.ver < 2 ^ 32
  idx : I64 x.idx
def Ent5.cells (x : Ent5) : List Value := [.int .i64 x.kind, .int .u32 (x.num : Int), .int .u32 (x.ver : Int), .int .i64 x.idx]
theorem Ent5.cells_len (x : Ent5) : x.cells.length = 4 := rfl
theorem Ent5.cells_one (x : Ent5) : ∀ u ∈ x.cells, u.oneCell' = true := by
  intro u hu
  simp only [Ent5.cells, List.mem_cons, List.not_mem_nil, or_false] at hu
  rcases hu with rfl | rfl | rfl | rfl <;> rfl
def entryL (x : Ent5) : List (Nat × Int) := [(1, x.kind), (2, (x.num : Int)), (4, (x.ver : Int)), (2, x.idx)]
def entryAll (L : List Ent5) : List (Nat × Int) := L.flatMap entryL
theorem entryAll_snoc (L : List Ent5) (k : Nat) (x : Ent5) (h : L[k]? = some x) : entryAll (L.take (k + 1)) = entryAll (L.take k) ++ entryL x := by
  obtain ⟨hk, rfl⟩ := List.getElem?_eq_some_iff.1 h
  unfold entryAll
  rw [List.take_succ_eq_append_getElem hk, List.flatMap_append]; simp
theorem entryAll_len (L : List Ent5) : (fB (entryAll L)).length = 9 * L.length := by
  induction L with
  | nil => rfl
  | cons x r ih =>
    have h1 : entryAll (x :: r) = entryL x ++ entryAll r := by simp [entryAll]
    rw [h1, fB_append, List.length_append, ih, fB_len, List.length_cons]
    have h2 : ((entryL x).map (·.1)).sum = 9 := rfl
    rw [h2]; omega
def rentry (l : List UInt8) (a : Nat) : Ent5 := ⟨(rN l a 1 : Int), rN l (a + 1) 2, rN l ((a + 1) + 2) 4, (rN l (((a + 1) + 2) + 4) 2 : Int)⟩
theorem rentry_ok (l : List UInt8) (a : Nat) : (rentry l a).Ok := by
  have h := fun a k (hk : k ≤ 4) => Nat.lt_of_lt_of_le (rN_lt l a k) (Nat.pow_le_pow_right (n := 256) (by decide) hk)
  have hi : ∀ a k, k ≤ 4 → I64 (rN l a k : Int) := fun a k hk => by have := h a k hk; exact ⟨by omega, by omega⟩
  exact ⟨hi _ _ (by decide), h _ _ (by decide), h _ _ (by decide), hi _ _ (by decide)⟩
theorem infoEntry3 : (Try.prog.info? 163).map (fun i => (i.zero, i.size, i.bytes)) = some (some (.agg #[.int .i64 0, .int .u32 0, .int .u32 0, .int .i64 0]), 4, 24) := by kernel_rfl
theorem entry_bad (l : List UInt8) (a : Nat) : (((((decide (l.length < a)) || !rOk l a 1) || !rOk l (a + 1) 2) || !rOk l ((a + 1) + 2) 4) || !rOk l (((a + 1) + 2) + 4) 2) = decide (l.length < a + 9) := by
  rw [bad_next l _ 1 (by decide), bad_next l _ 2 (by decide), bad_next l _ 4 (by decide), bad_next l _ 2 (by decide)]
/-- One of them, when it writes. -/
theorem pw_entry' {w : World} {base g : Nat} {l : List UInt8} {bad : Bool} (x : Ent5) (hx : x.Ok) (pb po : Nat) (h : CwAt w base g l bad) (hr : w.rangeAt pb po x.cells) (hl : l.length ≤ 90000) (hbs : base ≤ w.heap.size) (hpb : pb < base) :
    Calls Try.prog 101 #[wV g, .pointer (some ⟨pb, po, none⟩)] w (CwTo w base g (l ++ fB (entryL x)) (bad || fBad (entryL x))) :=
  pw_entry x.kind x.num x.ver x.idx pb po h (hr 0 _ rfl) (hr 1 _ rfl) (hr 2 _ rfl) (hr 3 _ rfl) hx.kind hx.num hx.ver hx.idx hl hbs hpb
/-- One of them, when it reads. -/
theorem pr_entry' {w : World} {g a pb : Nat} {v : Value} {l : List UInt8} {bad : Bool} (h : CrAt w g v l a bad) (hbad : bad = decide (l.length < a)) (ha : a ≤ 900) (hl : l.length ≤ 1000) (hb : w.heap[pb]? = some (.cells #[.int .i64 0, .int .u32 0, .int .u32 0, .int .i64 0] 163 (0, 0))) (hpg : pb ≠ g) (hv : Apart (· = pb) v l) :
    Calls Try.prog 101 #[rV g, .pointer (some ⟨pb, 0, none⟩)] w fun e w' => e = .returned (.tuple #[]) ∧ CrPass w g v l (a + 9) (decide (l.length < a + 9)) pb (rentry l a).cells.toArray 163 w' := by
  refine (pr_entry pb 0 _ 163 0 0 0 0 h ha hl hb rfl rfl rfl rfl hpg hv).mono fun e w' ⟨h1, h2⟩ => ⟨h1, ?_⟩
  rw [hbad, entry_bad] at h2
  exact h2
set_option maxRecDepth 10000 in
set_option maxHeartbeats 8000000 in
theorem lw_entry {w : World} {base g : Nat} {l : List UInt8} {bad : Bool} (L : List Ent5) (A : Option Addr) (c : Nat) (pb po : Nat) (h : CwAt w base g l bad) (hc : w.cell? ⟨pb, po, none⟩ = some (.slice A L.length c)) (hR : ReadAt w A Ent5.cells 4 L)
    (hA : ∀ a, A = some a → a.block < base) (hpb : pb < base) (hok : ∀ x ∈ L, x.Ok) (hl : l.length ≤ 1000) (hL : L.length ≤ 1000) (hbs : base ≤ w.heap.size) :
    Calls Try.prog 100 #[wV g, .pointer (some ⟨pb, po, none⟩), .func (.func 101) #[] #[]] w (CwTo w base g (l ++ fB (entryAll L)) (bad || fBad (entryAll L))) := by
  have HW := Lib.hid (show CwAt w base g (l ++ fB (entryAll (L.take 0))) (bad || fBad (entryAll (L.take 0))) by simpa [entryAll, fB, fBad] using h)
  have HC := Lib.hid hc
  have HR := Lib.hid hR
  have HA := Lib.hid hA
  have HOK := Lib.hid hok
  have na_more := fun W => na_w ⟨g, 0, none⟩ W "drumlin/codec.more" (by simp)
  have mt_more := fun W => mw_more ⟨g, 0, none⟩ W
  clear h hR hA hok
  unfold wV
  unfold CwTo
  go_enter Try.func100, Try.ntmps100
  go_wp2
  clear hc
  go_loopw [12] (fun i wr => ∃ k : Nat, k ≤ L.length ∧ i = .int .i64 (k : Int) ∧ Hid (CwAt wr base g (l ++ fB (entryAll (L.take k))) (bad || fBad (entryAll (L.take k)))) ∧ Hid (Below base w wr)) (fun i _ => (L.length - intOf i).toNat)
  case atStart => exact ⟨0, by omega, rfl, HW, Lib.hid (Below.refl _ _)⟩
  case round =>
    obtain ⟨k, hk, rfl, HWk, HBk⟩ := hrel
    clear HW
    have hc := (HBk.out.cell (p := ⟨pb, po, none⟩) hpb).trans HC.out
    by_cases hlt : k < L.length
    · obtain ⟨x, hx⟩ : ∃ x, L[k]? = some x := ⟨_, List.getElem?_eq_getElem hlt⟩
      obtain ⟨b, o, rfl, hr⟩ := rows_at Ent5.cells_len HR.out hx
      have hbl := HA.out _ rfl
      dsimp only at hbl
      have hr2 : wr.rangeAt b (o + k * 4) x.cells := fun j u hu => (HBk.out.cell (p := ⟨b, o + k * 4 + j, none⟩) hbl).trans (hr j u hu)
      have hlen : (l ++ fB (entryAll (L.take k))).length ≤ 90000 := by
        rw [List.length_append, entryAll_len]
        have : (L.take k).length ≤ k := List.length_take_le _ _
        omega
      have HP := Lib.hid (pw_entry' x (HOK.out x (List.mem_of_getElem? hx)) b (o + k * 4) HWk.out hr2 hlen (Nat.le_trans hbs HBk.out.size) hbl)
      unfold wV CwTo at HP
      have HX := Lib.hid hx
      clear hr hr2 hlen hx
      go_wp2_with (go_at_call 101; go_must (refine HP.out.mono ?_; rintro e w2 ⟨rfl, hcw, hb2⟩; have HW2 := Lib.hid hcw; have HB2 := Lib.hid (HBk.out.trans hb2); clear hcw hb2))
      have HW3 : Hid (CwAt w2 base g (l ++ fB (entryAll (L.take (k + 1)))) (bad || fBad (entryAll (L.take (k + 1))))) := Lib.hid (by
        rw [entryAll_snoc L k x HX.out, fB_append, fBad_append]
        have := HW2.out
        simpa [List.append_assoc, Bool.or_assoc] using this)
      clear HW2
      go_roundw
      case rel => exact ⟨k + 1, by omega, by go_num, HW3, HB2⟩
      case measure => simp [intOf]; omega
    · obtain rfl : k = L.length := by omega
      have ht : L.take L.length = L := List.take_length
      have hW := HWk.out
      rw [ht] at hW
      have HWL := Lib.hid hW
      clear hW ht HWk
      go_wp2
      obtain ⟨wo, rfl⟩ : ∃ wo : World, wo = wr := ⟨_, rfl⟩
      go_loopw [] (fun wr => Hid (wr = wo)) (fun _ => 0)
      case atStart => exact Lib.hid rfl
      case round =>
        have he := hrel.out
        subst he
        go_wp2_with (go_at_call 129; refine (cw_more _ _).mono ?_; rintro e wq ⟨rfl, rfl⟩)
        go_end0
        exact ⟨rfl, HWL.out, HBk.out⟩
def entrys (l : List UInt8) (a J : Nat) : List Ent5 := (List.range J).map fun q => rentry l (a + q * 9)
theorem entrys_snoc (l : List UInt8) (a J : Nat) : entrys l a (J + 1) = entrys l a J ++ [rentry l (a + J * 9)] := by unfold entrys; rw [List.range_succ, List.map_append]; rfl
theorem entrys_len (l : List UInt8) (a J : Nat) : (entrys l a J).length = J := by simp [entrys]
/-- What a list that was read leaves. -/
structure LrEnt5 (w : World) (g : Nat) (v : Value) (l : List UInt8) (a pb po : Nat) (cs : Array Value) (T : TypeId) (v' : Value) (J : Nat) (w' : World) : Prop where
  form : CrAt w' g v l (a + J * 9) (decide (l.length < a + J * 9))
  cell : w'.heap[pb]? = some (.cells (cs.setIfInBounds po v') T (0, 0))
  own : w'.ownsRow w.heap.size 163 4 v' J (rowsOf Ent5.cells (entrys l a J))
  keep : Keep (fun b => b = g ∨ b = pb) w w'
set_option maxRecDepth 10000 in
set_option maxHeartbeats 8000000 in
theorem lr_entry {w : World} {g : Nat} {v : Value} {l : List UInt8} (a pb po : Nat) (cs : Array Value) (T : TypeId) (h : CrAt w g v l a (decide (l.length < a))) (hl : l.length ≤ 255) (ha : a ≤ 400) (hb : w.heap[pb]? = some (.cells cs T (0, 0))) (hc : cs[po]? = some (.slice none 0 0)) (hpg : pb ≠ g) (hv : Apart (· = pb) v l) :
    Calls Try.prog 100 #[rV g, .pointer (some ⟨pb, po, none⟩), .func (.func 101) #[] #[]] w fun e w' => ∃ v' J, e = .returned (.tuple #[]) ∧ LrEnt5 w g v l a pb po cs T v' J w' ∧ l.length ≤ a + J * 9 ∧ (J = 0 ∨ a + (J - 1) * 9 < l.length) := by
  have hgl : g < w.heap.size := (Array.getElem?_eq_some_iff.1 h.box).1
  have hpl : pb < w.heap.size := (Array.getElem?_eq_some_iff.1 hb).1
  have c0 : w.cell? ⟨pb, po, none⟩ = some (.slice none 0 0) := (cell_row hb po).trans hc
  have na_more := fun W => na_r ⟨g, 0, none⟩ W "drumlin/codec.more" (by simp)
  have mt_more := fun W => mr_more ⟨g, 0, none⟩ W
  have hst : LrEnt5 w g v l a pb po cs T (.slice none 0 0) 0 w := ⟨by rw [Nat.zero_mul, Nat.add_zero]; exact h, by rw [set_same cs po _ hc]; exact hb, own_nilk _ _ _ _, Keep.refl _ w⟩
  have HST := Lib.hid hst
  have HC := Lib.hid hc
  have HV := Lib.hid hv
  have HVA := Lib.hid (byt_old h.byt)
  clear h hb hst hc hv
  unfold rV
  go_enter Try.func100, Try.ntmps100
  go_wp2
  go_loopw [12] (fun i wr => i = .int .i64 0 ∧ Hid (wr = w)) (fun _ _ => 0)
  case atStart => exact ⟨rfl, Lib.hid rfl⟩
  case round =>
    obtain ⟨rfl, he⟩ := hrel
    have he := he.out
    subst he
    go_wp2
    clear c0
    obtain ⟨wo, rfl⟩ : ∃ wo : World, wo = wr := ⟨_, rfl⟩
    go_loopw [] (fun wr => Hid (∃ v' J, LrEnt5 wo g v l a pb po cs T v' J wr ∧ a + J * 9 ≤ 800 ∧ (J = 0 ∨ a + (J - 1) * 9 < l.length))) (fun wr => (1000 - intOf ((wr.cell? ⟨g, 1, none⟩).getD undef)).toNat)
    case atStart => exact Lib.hid ⟨_, _, HST.out, by omega, .inl rfl⟩
    case round =>
      clear HST
      obtain ⟨v', J, hs, hJ, hJ2⟩ := hrel.out
      obtain ⟨s', c', rfl⟩ := own_slice1 hs.own
      have HAT : Hid (wr.cell? ⟨g, 1, none⟩ = some (.int .i64 ((a + J * 9 : Nat) : Int))) := Lib.hid (cell_row hs.form.box 1)
      have HS := Lib.hid hs
      have HM := Lib.hid (cr_more hs.form (by omega) (by omega))
      have hmb : (!decide (l.length < a + J * 9) && decide (a + J * 9 < l.length)) = decide (a + J * 9 < l.length) := by
        rw [Bool.eq_iff_iff]; simp; omega
      rw [hmb] at HM
      clear hs hmb
      by_cases hlt : a + J * 9 < l.length
      · rw [decide_eq_true hlt] at HM
        go_upto_region 6 with (go_at_call 133; refine HM.out.mono ?_; rintro e w1 ⟨rfl, nq, rfl⟩)
        have hk1 : Keep (fun b => b = g ∨ b = pb) wo (wr.drewN nq) := HS.out.keep.drewN nq
        have hf1 : CrAt (wr.drewN nq) g v l (a + J * 9) (decide (l.length < a + J * 9)) := ⟨HS.out.form.box, byt_keep (F := fun _ => False) HS.out.form.byt ((Keep.refl _ wr).drewN nq) (fun _ _ _ _ _ _ e => e), HS.out.form.apart⟩
        have hc1 : (wr.drewN nq).heap[pb]? = some (.cells (cs.setIfInBounds po (.slice s' J c')) T (0, 0)) := HS.out.cell
        have ho1 : (wr.drewN nq).ownsRow wo.heap.size 163 4 (.slice s' J c') J (rowsOf Ent5.cells (entrys l a J)) := HS.out.own
        revert hk1 hf1 hc1 ho1
        generalize wr.drewN nq = w1
        intro hk1 hf1 hc1 ho1
        have hba : Below w1.heap.size w1 (w1.alloc (.cells #[.int .i64 0, .int .u32 0, .int .u32 0, .int .i64 0] 163 (0, 0))) := (Below.refl _ _).alloc (Nat.le_refl _) _
        have hnew := heap_alloc_last w1 (.cells #[.int .i64 0, .int .u32 0, .int .u32 0, .int .i64 0] 163 (0, 0))
        have hf2 := hf1.below hba
        have hlt1 : g < w1.heap.size := (Array.getElem?_eq_some_iff.1 hf1.box).1
        have hlt2 : pb < w1.heap.size := (Array.getElem?_eq_some_iff.1 hc1).1
        have HP := Lib.hid (pr_entry' hf2 rfl (by omega) (by omega) hnew (by omega) (byt_apart hf1.byt))
        unfold rV at HP
        have HK2 := Lib.hid (hk1.trans (Keep.of_below hba))
        have HC2 := Lib.hid (old_heap hc1 hba)
        have HO2 := Lib.hid (own_below ho1 hba)
        have HLT := Lib.hid (show g < w1.heap.size ∧ pb < w1.heap.size ∧ wo.heap.size ≤ w1.heap.size from ⟨hlt1, hlt2, hk1.size⟩)
        have HOL := Lib.hid (own_block_lt ho1)
        clear hf1 hf2 hc1 ho1 hba hnew hk1 HM HS hrel
        go_upto_region 8 with (go_at_call 101; go_must (refine HP.out.mono ?_; rintro e w2 ⟨rfl, hcp⟩; have HCP := Lib.hid hcp; clear hcp))
        clear HP
        have hK3 : Keep (fun b => b = g ∨ b = pb) wo w2 := HK2.out.trans' HCP.out.keep (fun i hi hf => by rcases hf with e | e; exact .inl e; have := HLT.out.2.2; omega)
        have hC3 : w2.heap[pb]? = some (.cells (cs.setIfInBounds po (.slice s' J c')) T (0, 0)) := HCP.out.keep.heap HC2.out (by have := HLT.out; omega)
        have hO3 : w2.ownsRow wo.heap.size 163 4 (.slice s' J c') J (rowsOf Ent5.cells (entrys l a J)) := own_move HO2.out (fun k hk => HCP.out.keep.block k (own_block_lt HO2.out k hk) (by have h1 := (HO2.out.lt k hk).1; have h2 := HOL.out k hk; omega))
        have hXC := HCP.out.cell
        have hpc : w2.cell? ⟨pb, po, none⟩ = some (.slice s' J c') := (cell_row hC3 po).trans (set_at cs po _ _ HC.out)
        have hpf := free_row hC3 po
        have x0 : w2.cell? ⟨w1.heap.size, 0, none⟩ = some (.int .i64 (rN l ((a + J * 9)) 1 : Int)) := cell_row hXC 0
        have x1 : w2.cell? ⟨w1.heap.size, 1, none⟩ = some (.int .u32 (rN l (((a + J * 9) + 1)) 2 : Int)) := cell_row hXC 1
        have x2 : w2.cell? ⟨w1.heap.size, 2, none⟩ = some (.int .u32 (rN l ((((a + J * 9) + 1) + 2)) 4 : Int)) := cell_row hXC 2
        have x3 : w2.cell? ⟨w1.heap.size, 3, none⟩ = some (.int .i64 (rN l (((((a + J * 9) + 1) + 2) + 4)) 2 : Int)) := cell_row hXC 3
        have hlt2 : pb < w2.heap.size := (Array.getElem?_eq_some_iff.1 hC3).1
        have hltX : w1.heap.size < w2.heap.size := (Array.getElem?_eq_some_iff.1 hXC).1
        have hneq : ∀ k, Value.ownBlock (.slice s' J c') = some k → k ≠ pb ∧ k ≠ w1.heap.size ∧ wo.heap.size ≤ k := fun k hk => by
          have h1 := (HO2.out.lt k hk).1
          have h2 := HOL.out k hk
          exact ⟨by omega, by omega, h1⟩
        have hHS : (fun w' : World => w'.cell? ⟨pb, po, none⟩ = some (.slice s' J c') ∧ w'.frozen? ⟨pb, po, none⟩ = false ∧ w'.cell? ⟨w1.heap.size, 0, none⟩ = some (.int .i64 (rN l ((a + J * 9)) 1 : Int)) ∧ w'.cell? ⟨w1.heap.size, 1, none⟩ = some (.int .u32 (rN l (((a + J * 9) + 1)) 2 : Int)) ∧ w'.cell? ⟨w1.heap.size, 2, none⟩ = some (.int .u32 (rN l ((((a + J * 9) + 1) + 2)) 4 : Int)) ∧ w'.cell? ⟨w1.heap.size, 3, none⟩ = some (.int .i64 (rN l (((((a + J * 9) + 1) + 2) + 4)) 2 : Int))) w2.drew := ⟨hpc, hpf, x0, x1, x2, x3⟩
        have hkp : ∀ w' : World, w'.heap[pb]? = w2.heap[pb]? → w'.heap[w1.heap.size]? = w2.heap[w1.heap.size]? → (fun w' : World => w'.cell? ⟨pb, po, none⟩ = some (.slice s' J c') ∧ w'.frozen? ⟨pb, po, none⟩ = false ∧ w'.cell? ⟨w1.heap.size, 0, none⟩ = some (.int .i64 (rN l ((a + J * 9)) 1 : Int)) ∧ w'.cell? ⟨w1.heap.size, 1, none⟩ = some (.int .u32 (rN l (((a + J * 9) + 1)) 2 : Int)) ∧ w'.cell? ⟨w1.heap.size, 2, none⟩ = some (.int .u32 (rN l ((((a + J * 9) + 1) + 2)) 4 : Int)) ∧ w'.cell? ⟨w1.heap.size, 3, none⟩ = some (.int .i64 (rN l (((((a + J * 9) + 1) + 2) + 4)) 2 : Int))) w' := fun w' e1 e2 => ⟨(cell_row (e1.trans hC3) po).trans (set_at cs po _ _ HC.out), free_row (e1.trans hC3) po, cell_row (e2.trans hXC) 0, cell_row (e2.trans hXC) 1, cell_row (e2.trans hXC) 2, cell_row (e2.trans hXC) 3⟩
        have HKP := Lib.hid hkp
        have hAl : Below w2.heap.size w2 (w2.drew.alloc (.cells (rentry l (a + J * 9)).cells.toArray 163 (0, 0))) := (Below.refl _ w2).drew.alloc (Nat.le_refl _) _
        have HAL := Lib.hid hAl
        have HHS := Lib.hid hHS
        have HK3 := Lib.hid hK3
        have HC3 := Lib.hid hC3
        have HO3 := Lib.hid (hO3 : w2.drew.ownsRow wo.heap.size 163 4 (.slice s' J c') J (rowsOf Ent5.cells (entrys l a J)))
        have HNEQ := Lib.hid hneq
        have HF3 := Lib.hid HCP.out.form
        have hJb : J ≤ 800 := by omega
        have hwoL := HLT.out.2.2
        clear hpc hpf x0 x1 x2 x3 hK3 hC3 hO3 hXC hneq hHS hkp hAl HC2 HO2 HK2 HCP
        refine wp_region_F (S := (fun w' => w'.cell? ⟨pb, po, none⟩ = some (.slice s' J c') ∧ w'.frozen? ⟨pb, po, none⟩ = false ∧ w'.cell? ⟨w1.heap.size, 0, none⟩ = some (.int .i64 (rN l ((a + J * 9)) 1 : Int)) ∧ w'.cell? ⟨w1.heap.size, 1, none⟩ = some (.int .u32 (rN l (((a + J * 9) + 1)) 2 : Int)) ∧ w'.cell? ⟨w1.heap.size, 2, none⟩ = some (.int .u32 (rN l ((((a + J * 9) + 1) + 2)) 4 : Int)) ∧ w'.cell? ⟨w1.heap.size, 3, none⟩ = some (.int .i64 (rN l (((((a + J * 9) + 1) + 2) + 4)) 2 : Int)))) 8 (by kernel_rfl) (by exact HHS.out) (fun hHeld => ?_)
        refine take1F (i := 0) (v := ?_) (a' := ?_) (some 29) #[true, false, false, false, false, false, false, false, false] rfl rfl (by kernel_rfl) (fun _ _ _ h => h) (Or.inl ⟨by rfl, ?_⟩) hHeld ?_ ?_
        rotate_left
        · (intro w hSw; (try dsimp only at hSw); obtain ⟨hpc, hpf, x0, x1, x2, x3⟩ := hSw; go_simp; (try with_reducible rfl))
        rotate_left
        · simp only [Act.put, List.setIfInBounds_toArray, List.set_cons_zero, List.set_cons_succ]
          rfl
        refine take1F (i := 1) (v := ?_) (a' := ?_) (some 30) #[true, true, false, false, false, false, false, false, false] rfl rfl (by kernel_rfl) (fun _ _ _ h => h) (Or.inl ⟨by rfl, ?_⟩) hHeld ?_ ?_
        rotate_left
        · (intro w hSw; (try dsimp only at hSw); obtain ⟨hpc, hpf, x0, x1, x2, x3⟩ := hSw; go_simp; (try with_reducible rfl))
        rotate_left
        · simp only [Act.put, List.setIfInBounds_toArray, List.set_cons_zero, List.set_cons_succ]
          rfl
        refine take1F (i := 2) (v := ?_) (a' := ?_) (some 31) #[true, true, true, false, false, false, false, false, false] rfl rfl (by kernel_rfl) (fun _ _ _ h => h) (Or.inl ⟨by rfl, ?_⟩) hHeld ?_ ?_
        rotate_left
        · (intro w hSw; (try dsimp only at hSw); obtain ⟨hpc, hpf, x0, x1, x2, x3⟩ := hSw; go_simp; (try with_reducible rfl))
        rotate_left
        · simp only [Act.put, List.setIfInBounds_toArray, List.set_cons_zero, List.set_cons_succ]
          rfl
        refine take1F (i := 3) (v := ?_) (a' := ?_) (some 32) #[true, true, true, true, false, false, false, false, false] rfl rfl (by kernel_rfl) (fun _ _ _ h => h) (Or.inl ⟨by rfl, ?_⟩) hHeld ?_ ?_
        rotate_left
        · (intro w hSw; (try dsimp only at hSw); obtain ⟨hpc, hpf, x0, x1, x2, x3⟩ := hSw; go_simp; (try with_reducible rfl))
        rotate_left
        · simp only [Act.put, List.setIfInBounds_toArray, List.set_cons_zero, List.set_cons_succ]
          rfl
        refine take1F (i := 4) (v := ?_) (a' := ?_) (some 33) #[true, true, true, true, true, false, false, false, false] rfl rfl (by kernel_rfl) (fun _ _ _ h => h) (Or.inl ⟨by rfl, ?_⟩) hHeld ?_ ?_
        rotate_left
        · (intro w hSw; (try dsimp only at hSw); obtain ⟨hpc, hpf, x0, x1, x2, x3⟩ := hSw; go_simp; (try with_reducible rfl))
        rotate_left
        · simp only [Act.put, List.setIfInBounds_toArray, List.set_cons_zero, List.set_cons_succ]
          rfl
        refine loud1F (i := 5) (some 34) #[true, true, true, true, true, true, false, false, false] rfl rfl (by kernel_rfl) (fun K hK => ?_)
        go_simp
        skip
        refine hK.out _ _ (by first | exact HKP.out _ (HAL.out.block pb hlt2) (HAL.out.block _ hltX) | exact HKP.out _ ((HG4.out.block pb (Nat.lt_of_lt_of_le hlt2 HAL.out.size) (fun e => (HNEQ.out pb e.symm).1 rfl)).trans (HAL.out.block pb hlt2)) ((HG4.out.block _ (Nat.lt_of_lt_of_le hltX HAL.out.size) (fun e => (HNEQ.out _ e.symm).2.1 rfl)).trans (HAL.out.block _ hltX))) (fun hHeld' => ?_)
        clear hK K hHeld
        have hHeld := hHeld'
        clear hHeld'
        try simp only [Act.put, List.setIfInBounds_toArray, List.set_cons_zero, List.set_cons_succ]
        refine loud1F (i := 6) (some 35) #[true, true, true, true, true, true, true, false, false] rfl rfl (by kernel_rfl) (fun K hK => ?_)
        (refine step_append_rd (by rfl) (.tmp 32) (.tmp 34) 103 (by rfl) wo.heap.size 163 (.agg #[.int .i64 0, .int .u32 0, .int .u32 0, .int .i64 0]) 4 24 Try.underlying103 infoEntry3 rfl (by decide) _ _ _ (by rfl) (HO3.out.alloc _) _ 1 (rentry l (a + J * 9)).cells (by rfl) (rd_row (heap_alloc_last w2.drew (.cells (rentry l (a + J * 9)).cells.toArray 163 (0, 0))) rfl 1) (Ent5.cells_one _) (by omega) (by decide) (by simp; omega) ?_; intro v4 w4 hown4 hbel4 hg4; obtain ⟨s4, c4, rfl⟩ := own_slice1 hown4; have HO4 := Lib.hid hown4; have HB4 := Lib.hid hbel4; have HG4 := Lib.hid hg4; clear hown4 hbel4 hg4)
        refine hK.out _ _ (by first | exact HKP.out _ (HAL.out.block pb hlt2) (HAL.out.block _ hltX) | exact HKP.out _ ((HG4.out.block pb (Nat.lt_of_lt_of_le hlt2 HAL.out.size) (fun e => (HNEQ.out pb e.symm).1 rfl)).trans (HAL.out.block pb hlt2)) ((HG4.out.block _ (Nat.lt_of_lt_of_le hltX HAL.out.size) (fun e => (HNEQ.out _ e.symm).2.1 rfl)).trans (HAL.out.block _ hltX))) (fun hHeld' => ?_)
        clear hK K hHeld
        have hHeld := hHeld'
        clear hHeld'
        try simp only [Act.put, List.setIfInBounds_toArray, List.set_cons_zero, List.set_cons_succ]
        refine take1F (i := 7) (v := ?_) (a' := ?_) (some 36) #[true, true, true, true, true, true, true, true, false] rfl rfl (by kernel_rfl) (fun _ _ _ h => h) (Or.inl ⟨by rfl, ?_⟩) hHeld ?_ ?_
        rotate_left
        · (intro w hSw; (try dsimp only at hSw); obtain ⟨hpc, hpf, x0, x1, x2, x3⟩ := hSw; go_simp; (try with_reducible rfl))
        rotate_left
        · simp only [Act.put, List.setIfInBounds_toArray, List.set_cons_zero, List.set_cons_succ]
          rfl
        refine last1F (none) #[true, true, true, true, true, true, true, true, true] rfl rfl (by kernel_rfl) (fun K hK => ?_)
        (obtain ⟨hpc, hpf, x0, x1, x2, x3⟩ := hHeld; go_simp)
        refine hK.out _ _ ?_
        clear hK K
        try simp only [Act.put, List.setIfInBounds_toArray, List.set_cons_zero, List.set_cons_succ]
        refine wpAnyF_done (by kernel_rfl) ?_ _
        have hb24 : Below wo.heap.size w2 w4 := (HAL.out.mono (Nat.le_of_lt (Nat.lt_of_le_of_lt hwoL hltX))).trans HB4.out
        have hkF : Keep (fun b => b = pb ∨ wo.heap.size ≤ b) w2 (w4.setCell ⟨pb, po, none⟩ (.slice s4 (J + 1) c4)) := (keepF hb24).setCell pb po _ (.inl rfl)
        have heq : a + (J + 1) * 9 = a + J * 9 + 9 := by omega
        have hC4 : w4.heap[pb]? = some (.cells (cs.setIfInBounds po (.slice s' J c')) T (0, 0)) := (hb24.block pb hpl).trans HC3.out
        have hown := HO4.out
        rw [← rowsOf_snoc, ← entrys_snoc] at hown
        have hnew : LrEnt5 wo g v l a pb po cs T (.slice s4 (J + 1) c4) (J + 1) (w4.setCell ⟨pb, po, none⟩ (.slice s4 (J + 1) c4)) := by
          refine ⟨?_, ?_, ?_, ?_⟩
          · rw [heq]
            exact ⟨hkF.heap HF3.out.box (by omega), byt_keep HF3.out.byt hkF (fun hne b o n c e f => by rcases f with f | f; exact HV.out hne b o n c e f; exact HVA.out hne b o n c e f), HF3.out.apart⟩
          · have := head_set hC4 po (.slice s4 (J + 1) c4)
            rw [set_set2] at this
            exact this
          · exact own_move hown (fun k hk => Below.heap_setCell _ ⟨pb, po, none⟩ _ k (by have := (hown.lt k hk).1; show k ≠ pb; omega))
          · exact HK3.out.trans' hkF (fun i hi hf => by rcases hf with e | e; exact .inr e; omega)
        have hat1 : (w4.setCell ⟨pb, po, none⟩ (.slice s4 (J + 1) c4)).cell? ⟨g, 1, none⟩ = some (.int .i64 ((a + (J + 1) * 9 : Nat) : Int)) := cell_row hnew.form.box 1
        have hat0 : wr.cell? ⟨g, 1, none⟩ = some (.int .i64 ((a + J * 9 : Nat) : Int)) := HAT.out
        have HNEW := Lib.hid hnew
        have HAT1 := Lib.hid hat1
        have HAT0 := Lib.hid hat0
        clear hb24 hkF heq hC4 hown hnew hat1 hat0 HO4 HB4 HG4 HC3 HO3 HK3 HF3 HHS HKP HAL
        revert HNEW HAT1
        generalize w4.setCell ⟨pb, po, none⟩ (.slice s4 (J + 1) c4) = w5
        intro HNEW HAT1
        go_wp2
        go_roundw
        case rel => exact Lib.hid ⟨_, J + 1, HNEW.out, by omega, .inr (by rw [Nat.add_sub_cancel]; exact hlt)⟩
        case measure => rw [HAT1.out, HAT0.out]; simp [intOf]; omega
      · rw [decide_eq_false hlt] at HM
        have hlt3 : l.length ≤ a + J * 9 := by omega
        go_wp2_with (go_at_call 133; refine HM.out.mono ?_; rintro e w1 ⟨rfl, nq, rfl⟩)
        go_end0
        exact ⟨_, J, rfl, ⟨⟨HS.out.form.box, byt_keep (F := fun _ => False) HS.out.form.byt ((Keep.refl _ wr).drewN nq) (fun _ _ _ _ _ _ e => e), HS.out.form.apart⟩, HS.out.cell, HS.out.own, HS.out.keep.drewN nq⟩, hlt3, hJ2⟩
end Go.Proofs.Ytlcbfpcabalgcaa
