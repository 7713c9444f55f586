/-
  The inode map's functions, walked: Link, Release, Get, Used, Count; the law's fixed fact.
-/
import Derived.Test.YtakoajdcdoigdaaMapC
namespace Go.Proofs.Ytakoajdcdoigdaa
open Go.RowKit
set_option linter.unusedVariables false
set_option linter.unusedSimpArgs false
theorem own_slice {w : World} {base e size n : Nat} {v : Value} {xs : List Value} (h : w.ownsRow base e size v n xs) : ∃ sp c, v = .slice sp n c := by
  rcases h.2 with ⟨rfl, rfl⟩ | ⟨g, cap, cur, rfl, _⟩
  · exact ⟨_, _, rfl⟩
  · exact ⟨_, _, rfl⟩
section
variable (p g c : Nat) (L : List Sl) (w : World)
theorem ilink_no (num n : Int) (h : MapAt w p g c L) (hn : num < 1 ∨ (L.length : Int) < num) :
    Calls Try.prog 11 #[.pointer (some ⟨p, 0, none⟩), .int .i64 num, .int .i64 n] w fun e w' => e = .returned (.tuple #[.int .i64 0, .int .i64 1]) ∧ w = w' := by
  have HG := Lib.hid (igiven_no p g c L num w h hn)
  clear h hn
  go_enter Try.func11, Try.ntmps11
  go_wp2_with (go_at_call 20; go_must (refine HG.out.mono ?_; rintro e w1 ⟨rfl, rfl⟩))
  go_ret2
  exact ⟨rfl, rfl⟩
theorem ilink_free (i : Nat) (s : Sl) (n : Int) (h : MapAt w p g c L) (hL : L.length ≤ 200) (hs : L[i]? = some s) (hk : s.kind = 0) :
    Calls Try.prog 11 #[.pointer (some ⟨p, 0, none⟩), .int .i64 ((i : Int) + 1), .int .i64 n] w fun e w' => e = .returned (.tuple #[.int .i64 0, .int .i64 4]) ∧ w = w' := by
  have HG := Lib.hid (igiven_free p g c L i s w h hL hs hk)
  clear h hs hk
  go_enter Try.func11, Try.ntmps11
  go_wp2_with (go_at_call 20; go_must (refine HG.out.mono ?_; rintro e w1 ⟨rfl, rfl⟩))
  go_ret2
  exact ⟨rfl, rfl⟩
theorem ilink_out (i : Nat) (s : Sl) (n : Int) (h : MapAt w p g c L) (hL : L.length ≤ 200) (hs : L[i]? = some s) (hk : s.kind ≠ 0) (hl : 0 ≤ s.links ∧ s.links ≤ 65535) (hn : n < -s.links ∨ 100 - s.links < n) :
    Calls Try.prog 11 #[.pointer (some ⟨p, 0, none⟩), .int .i64 ((i : Int) + 1), .int .i64 n] w fun e w' => e = .returned (.tuple #[.int .i64 0, .int .i64 10]) ∧ w = w' := by
  have HG := Lib.hid (igiven_yes p g c L i s w h hL hs hk)
  obtain ⟨c0, c1, c2, c3⟩ := h.slot i s hs
  obtain ⟨l, hl'⟩ : ∃ l, l = s.links := ⟨_, rfl⟩
  rw [← hl'] at c2 hl hn
  obtain ⟨hl0, hl1⟩ := hl
  clear h hs hk c0 c1 c3 hl'
  by_cases h1 : n < -l
  · clear hn
    go_enter Try.func11, Try.ntmps11
    go_wp2_with (go_at_call 20; go_must (refine HG.out.mono ?_; rintro e w1 ⟨rfl, rfl⟩))
    go_ret2
    exact ⟨rfl, rfl⟩
  · have h2 : 100 - l < n := by omega
    clear hn
    go_enter Try.func11, Try.ntmps11
    go_wp2_with (go_at_call 20; go_must (refine HG.out.mono ?_; rintro e w1 ⟨rfl, rfl⟩))
    go_ret2
    exact ⟨rfl, rfl⟩
theorem ilink_yes (i : Nat) (s : Sl) (n : Int) (h : MapAt w p g c L) (hL : L.length ≤ 200) (hs : L[i]? = some s) (hk : s.kind ≠ 0) (hl : 0 ≤ s.links ∧ s.links ≤ 65535) (h1 : -s.links ≤ n) (h2 : n ≤ 100 - s.links) :
    Calls Try.prog 11 #[.pointer (some ⟨p, 0, none⟩), .int .i64 ((i : Int) + 1), .int .i64 n] w fun e w' => e = .returned (.tuple #[.int .i64 (s.links + n), .int .i64 0]) ∧ MapAt w' p g c (L.set i { s with links := s.links + n }) ∧ Keep (· = g) w w' := by
  have HG := Lib.hid (igiven_yes p g c L i s w h hL hs hk)
  obtain ⟨c0, c1, c2, c3⟩ := h.slot i s hs
  have HM := Lib.hid (MapAt.store_links h i s (s.links + n) hs)
  have HK := Lib.hid ((Keep.refl (· = g) w).setCell g (i * 4 + 2) (.int .i64 (s.links + n)) rfl)
  have e2 : w.frozen? ⟨g, i * 4 + 2, none⟩ = false := RawAt.free h.2.2 _
  obtain ⟨l, hl'⟩ : ∃ l, l = s.links := ⟨_, rfl⟩
  rw [← hl'] at c2 hl h1 h2 HM HK ⊢
  obtain ⟨hl0, hl1⟩ := hl
  have h1' : ¬ n < -l := by omega
  have h2' : ¬ 100 - l < n := by omega
  have hw : wrap64 (l + n) = l + n := by rw [← i64_w]; exact IntWalk.i64_in _ (by omega)
  clear h hs hk c0 c1 c3 hl'
  go_enter Try.func11, Try.ntmps11
  go_upto_region 7 with (go_at_call 20; go_must (refine HG.out.mono ?_; rintro e w1 ⟨rfl, rfl⟩))
  have hc : (w.setCell ⟨g, i * 4 + 2, none⟩ (.int .i64 (l + n))).cell? ⟨g, i * 4 + 2, none⟩ = some (.int .i64 (l + n)) := World.cell?_setCell_same' _ _ _ (by rw [c2]; rfl)
  generalize w.setCell ⟨g, i * 4 + 2, none⟩ (.int .i64 (l + n)) = w2 at HM HK hc ⊢
  go_wp2
  go_ret2
  exact ⟨rfl, HM.out, HK.out⟩
theorem irel_no (num : Int) (h : MapAt w p g c L) (hn : num < 1 ∨ (L.length : Int) < num) :
    Calls Try.prog 8 #[.pointer (some ⟨p, 0, none⟩), .int .i64 num] w fun e w' => e = .returned (.int .i64 1) ∧ w = w' := by
  have HG := Lib.hid (igiven_no p g c L num w h hn)
  clear h hn
  go_enter Try.func8, Try.ntmps8
  go_wp2_with (go_at_call 20; go_must (refine HG.out.mono ?_; rintro e w1 ⟨rfl, rfl⟩))
  go_ret
  exact ⟨rfl, rfl⟩
theorem irel_free (i : Nat) (s : Sl) (h : MapAt w p g c L) (hL : L.length ≤ 200) (hs : L[i]? = some s) (hk : s.kind = 0) :
    Calls Try.prog 8 #[.pointer (some ⟨p, 0, none⟩), .int .i64 ((i : Int) + 1)] w fun e w' => e = .returned (.int .i64 4) ∧ w = w' := by
  have HG := Lib.hid (igiven_free p g c L i s w h hL hs hk)
  clear h hs hk
  go_enter Try.func8, Try.ntmps8
  go_wp2_with (go_at_call 20; go_must (refine HG.out.mono ?_; rintro e w1 ⟨rfl, rfl⟩))
  go_ret
  exact ⟨rfl, rfl⟩
theorem irel_yes (i : Nat) (s : Sl) (h : MapAt w p g c L) (hL : L.length ≤ 200) (hs : L[i]? = some s) (hk : s.kind ≠ 0) :
    Calls Try.prog 8 #[.pointer (some ⟨p, 0, none⟩), .int .i64 ((i : Int) + 1)] w fun e w' => e = .returned (.int .i64 0) ∧ MapAt w' p g c (L.set i ⟨0, s.ver, 0, 0⟩) ∧ Keep (· = g) w w' := by
  have hlt : i < L.length := (List.getElem?_eq_some_iff.1 hs).1
  have HG := Lib.hid (igiven_yes p g c L i s w h hL hs hk)
  obtain ⟨c0, c1, c2, c3⟩ := h.slot i s hs
  have hm := MapAt.store h i ⟨0, s.ver, 0, 0⟩ hlt
  dsimp only at hm
  have HM := Lib.hid hm
  have HK := Lib.hid (((((Keep.refl (· = g) w).setCell g (i * 4) (.int .i64 0) rfl).setCell g (i * 4 + 1) (.int .u32 (s.ver : Int)) rfl).setCell g (i * 4 + 2) (.int .i64 0) rfl).setCell g (i * 4 + 3) (.int .i64 0) rfl)
  have e0 : w.frozen? ⟨g, i * 4, none⟩ = false := RawAt.free h.2.2 _
  have e1 : w.frozen? ⟨g, i * 4 + 1, none⟩ = false := RawAt.free h.2.2 _
  have e2 : w.frozen? ⟨g, i * 4 + 2, none⟩ = false := RawAt.free h.2.2 _
  have e3 : w.frozen? ⟨g, i * 4 + 3, none⟩ = false := RawAt.free h.2.2 _
  clear h hs hk hm
  go_enter Try.func8, Try.ntmps8
  go_wp2_with (go_at_call 20; go_must (refine HG.out.mono ?_; rintro e w1 ⟨rfl, rfl⟩))
  go_ret
  exact ⟨rfl, HM.out, HK.out⟩
theorem iget_yes (i : Nat) (s : Sl) (h : MapAt w p g c L) (hL : L.length ≤ 200) (hs : L[i]? = some s) :
    Calls Try.prog 12 #[.pointer (some ⟨p, 0, none⟩), .int .i64 ((i : Int) + 1)] w fun e w' => e = .returned (.tuple #[slV s, .int .i64 0]) ∧ Below w.heap.size w w' := by
  have hlt : i < L.length := (List.getElem?_eq_some_iff.1 hs).1
  have hb0 := (Below.refl w.heap.size w).alloc (Nat.le_refl _) (.cells #[.int .i64 0, .int .u32 0, .int .i64 0, .int .i64 0] 42 (0, 0))
  have h1 := h.below hb0
  have HH := Lib.hid (ihas_yes p g c L i _ h1 hlt)
  have hc := h1.head
  have hle := h.le
  obtain ⟨c0, c1, c2, c3⟩ := h1.slot i s hs
  clear h h1 hs
  unfold slV
  go_enter Try.func12, Try.ntmps12
  go_wp2_with (go_at_call 24; go_must (refine HH.out.mono ?_; rintro e w1 ⟨rfl, rfl⟩))
  have hb1 := (Below.refl w.heap.size w).alloc (Nat.le_refl _) (.cells #[.int .i64 s.at_, .int .u32 (s.ver : Int), .int .i64 s.links, .int .i64 s.kind] 42 (0, 0))
  exact bodyPost_ret (v := .tuple #[.agg #[.int .i64 s.at_, .int .u32 (s.ver : Int), .int .i64 s.links, .int .i64 s.kind], .int .i64 0]) (by simp [results, Try.results12, go_sem]) rfl ⟨rfl, hb1⟩
theorem iget_no (num : Int) (h : MapAt w p g c L) (hn : num < 1 ∨ (L.length : Int) < num) :
    Calls Try.prog 12 #[.pointer (some ⟨p, 0, none⟩), .int .i64 num] w fun e w' => e = .returned (.tuple #[slV sl0, .int .i64 1]) ∧ Below w.heap.size w w' := by
  have hb0 := (Below.refl w.heap.size w).alloc (Nat.le_refl _) (.cells #[.int .i64 0, .int .u32 0, .int .i64 0, .int .i64 0] 42 (0, 0))
  have HH := Lib.hid (ihas_no p g c L num _ (h.below hb0) hn)
  clear h hn
  go_enter Try.func12, Try.ntmps12
  go_wp2_with (go_at_call 24; go_must (refine HH.out.mono ?_; rintro e w1 ⟨rfl, rfl⟩))
  exact bodyPost_ret (v := .tuple #[.agg #[.int .i64 0, .int .u32 0, .int .i64 0, .int .i64 0], .int .i64 1]) (by simp [results, Try.results12, go_sem]) rfl ⟨rfl, hb0⟩
/-- The numbers of those that aren't free. -/
def usedN (L : List Sl) : Nat → List Int
  | 0 => []
  | j + 1 => if (L.getD j sl0).kind == 0 then usedN L j else usedN L j ++ [(j : Int) + 1]
theorem usedN_le (L : List Sl) (j : Nat) : (usedN L j).length ≤ j := by
  induction j with
  | zero => simp [usedN]
  | succ j ih =>
    simp only [usedN]
    split
    · omega
    · rw [List.length_append, List.length_singleton]; omega
def intsV (l : List Int) : List Value := l.map (Value.int .i64)
/-- What Used comes to: numbers of its own. -/
def UsedTo (w : World) (l : List Int) (e : Ending) (w' : World) : Prop := ∃ v, e = .returned v ∧ w'.ownsRow w.heap.size 3 1 v l.length (intsV l) ∧ Below w.heap.size w w'
theorem infoInt : (Try.prog.info? 3).map (fun i => (i.zero, i.size, i.bytes)) = some (some (.int .i64 0), 1, 8) := by kernel_rfl
set_option maxHeartbeats 1000000 in
set_option maxRecDepth 10000 in
theorem iused_any (h : MapAt w p g c L) (hL : L.length ≤ 200) :
    Calls Try.prog 23 #[.pointer (some ⟨p, 0, none⟩)] w (UsedTo w (usedN L L.length)) := by
  have hc := h.head
  have HM := Lib.hid h
  clear h
  go_enter Try.func23, Try.ntmps23
  go_wp2
  clear hc
  go_loopw [3, 11] (fun v i wr => ∃ j : Nat, j ≤ L.length ∧ i = .int .i64 (j : Int) ∧ Hid (wr.ownsRow w.heap.size 3 1 v (usedN L j).length (intsV (usedN L j))) ∧ Hid (Below w.heap.size w wr)) (fun _ i _ => (L.length - intOf i).toNat)
  case atStart => exact ⟨0, by omega, by rfl, Lib.hid (World.ownsRow_nil _ _ _ _), Lib.hid (Below.refl _ _)⟩
  case round =>
    obtain ⟨j, hj, rfl, HO, HB⟩ := hrel
    by_cases hlt : j < L.length
    · obtain ⟨s, hs⟩ : ∃ s, L[j]? = some s := ⟨_, List.getElem?_eq_getElem hlt⟩
      obtain ⟨c0, c1, c2, c3⟩ := (HM.out.below HB.out).slot j s hs
      have hD : L.getD j sl0 = s := by rw [List.getD_eq_getElem?_getD, hs]; rfl
      have hU : usedN L (j + 1) = if s.kind == 0 then usedN L j else usedN L j ++ [(j : Int) + 1] := by simp only [usedN]; rw [hD]
      have HU := Lib.hid hU
      have hul := usedN_le L j
      clear hs hD hU
      have hwj : wrap64 ((j : Int) + 1) = (j : Int) + 1 := by rw [← i64_w]; exact IntWalk.i64_in _ (by omega)
      have hsz := HB.out.size
      have hrd := rd_one (new_heap (wr.alloc (.cells #[.int .i64 s.at_, .int .u32 (s.ver : Int), .int .i64 s.links, .int .i64 s.kind] 42 (0, 0))) (.cells #[.int .i64 ((j : Int) + 1)] 3 (0, 0))) 1
      rw [World.size_alloc] at hrd
      have hba := HB.out.alloc hsz (.cells #[.int .i64 s.at_, .int .u32 (s.ver : Int), .int .i64 s.links, .int .i64 s.kind] 42 (0, 0))
      have hbb := hba.alloc (by simp; omega) (.cells #[.int .i64 ((j : Int) + 1)] 3 (0, 0))
      have hoa := HO.out.alloc (.cells #[.int .i64 s.at_, .int .u32 (s.ver : Int), .int .i64 s.links, .int .i64 s.kind] 42 (0, 0))
      by_cases hk : s.kind = 0
      · have hk0 : (s.kind == 0) = true := by simpa using hk
        rw [hk0, if_pos rfl] at HU
        rw [hk] at c3
        have HBA := Lib.hid hba
        have HOA := Lib.hid hoa
        rw [hk] at HBA HOA
        clear hba hbb hrd hoa HO hk0
        go_wp2
        refine ⟨⟨j + 1, by omega, by go_num, Lib.hid ?_, HBA⟩, by simp [intOf]; omega⟩
        rw [HU.out]; exact HOA.out
      · have hk0 : (s.kind == 0) = false := by simpa using hk
        have hk1 : (s.kind != 0) = true := by simpa using hk
        have hif : (if false = true then usedN L j else usedN L j ++ [(j : Int) + 1]) = usedN L j ++ [(j : Int) + 1] := if_neg (by simp)
        rw [hk0, hif] at HU
        have HBB := Lib.hid hbb
        have HOB := Lib.hid (hoa.alloc (.cells #[.int .i64 ((j : Int) + 1)] 3 (0, 0)))
        have HRD := Lib.hid hrd
        clear hba hbb hoa HO hk0 hk hif hrd
        go_wp2_with (at_builtin; refine wpList_append_rd _ rfl _ _ 39 rfl w.heap.size 3 (.int .i64 0) 1 8 Try.underlying39 infoInt rfl (by decide) _ _ _ rfl HOB.out _ 1 [.int .i64 ((j : Int) + 1)] rfl HRD.out ?c1 ?c2 (by decide) ?c3 ?_; (case c1 => intro u hu; simp at hu; subst hu; rfl); (case c2 => omega); (case c3 => simp; omega); intro v' w1 hown1 hbel1 hg1; have HO1 := Lib.hid hown1; have HB1 := Lib.hid (HBB.out.trans hbel1); clear hown1 hbel1 hg1)
        refine ⟨⟨j + 1, by omega, by go_num, Lib.hid ?_, HB1⟩, by simp [intOf]; omega⟩
        rw [HU.out]
        have := HO1.out
        simpa [intsV] using this
    · obtain rfl : j = L.length := by omega
      go_wp2
      go_ret
      exact ⟨_, rfl, HO.out, HB.out⟩
theorem icount_any (h : MapAt w p g c L) (hL : L.length ≤ 200) :
    Calls Try.prog 10 #[.pointer (some ⟨p, 0, none⟩)] w (RetN w ((usedN L L.length).length : Nat)) := by
  have HU := Lib.hid (iused_any p g c L w h hL)
  clear h
  unfold UsedTo at HU
  go_enter Try.func10, Try.ntmps10
  go_wp2_with (go_at_call 23; go_must (refine HU.out.mono ?_; rintro e w1 ⟨v, rfl, ho, hb1⟩; obtain ⟨sp, cp, rfl⟩ := own_slice ho; have HB1 := Lib.hid hb1; clear ho hb1))
  go_ret
  exact ⟨rfl, HB1.out⟩
end
end Go.Proofs.Ytakoajdcdoigdaa
