/-
  What is in a set, with and without a number, and how many, are the document's: BitsPlays answers true at every two sets of thirty bytes and every number, and writes nothing that was there.
  Conditions: none.
-/
import Derived.Test.YtkeoghekeapgaaaLists
import Derived.Test.YtkeoghekeapgaaaPut
namespace Go.Proofs.Ytkeoghekeapgaaa
open Go.ChangeShapes Go.WideShapes Go.ChangeAt Go.RowKit

/-- Block g is a row whose first 240 cells are these bools. -/
def BRow (w : World) (g : Nat) (bl : List Bool) : Prop := ∃ cur, w.heap[g]? = some (.cells cur 4 (0, 0)) ∧ ∀ j, j < 240 → cur[j]? = some (.bool (bl.getD j false))
theorem BRow.lt {w : World} {g : Nat} {bl : List Bool} (h : BRow w g bl) : g < w.heap.size := let ⟨_, h1, _⟩ := h; row_lt h1
theorem BRow.cell {w : World} {g : Nat} {bl : List Bool} (h : BRow w g bl) (j : Nat) (hj : j < 240) : w.cell? ⟨g, j, none⟩ = some (.bool (bl.getD j false)) := by
  obtain ⟨cur, h1, h2⟩ := h
  rw [cell_of_row w _ _ _ _ _ h1]; exact h2 j hj
theorem BRow.frozen {w : World} {g : Nat} {bl : List Bool} (h : BRow w g bl) (j : Nat) : w.frozen? ⟨g, j, none⟩ = false := by
  obtain ⟨cur, h1, _⟩ := h
  exact frozen_of_row w _ _ _ _ h1
theorem BRow.later {B : Nat} {W w : World} {g : Nat} {bl : List Bool} (h : BRow W g bl) (hb : Below B W w) (hg : g < B) : BRow w g bl := by
  obtain ⟨cur, h1, h2⟩ := h
  exact ⟨cur, row_later hb h1 hg, h2⟩
theorem BRow.alloc {w : World} {g : Nat} {bl : List Bool} (h : BRow w g bl) (o : Obj) : BRow (w.alloc o) g bl := by
  obtain ⟨cur, h1, h2⟩ := h
  exact ⟨cur, (Go.heap_alloc_old _ _ (row_lt h1)).trans h1, h2⟩
theorem BRow.other {w : World} {g : Nat} {bl : List Bool} (h : BRow w g bl) (a : Addr) (hne : g ≠ a.block) (u : Value) : BRow (w.setCell a u) g bl := by
  obtain ⟨cur, h1, h2⟩ := h
  exact ⟨cur, (heap_setCell_other _ _ _ _ hne).trans h1, h2⟩
theorem BRow.set {w : World} {g : Nat} {bl : List Bool} (h : BRow w g bl) (i : Nat) (hi : i < 240) (hl : bl.length = 240) (b : Bool) : BRow (w.setCell ⟨g, i, none⟩ (.bool b)) g (bl.set i b) := by
  obtain ⟨cur, h1, h2⟩ := h
  refine ⟨cur.setIfInBounds i (.bool b), heap_setCell_same w _ _ _ _ _ h1, fun j hj => ?_⟩
  rw [Array.getElem?_setIfInBounds]
  have hsz : i < cur.size := by
    rcases Nat.lt_or_ge i cur.size with h | h
    · exact h
    · have := h2 i hi; rw [Array.getElem?_eq_none h] at this; cases this
  by_cases e : i = j
  · subst e
    simp [hsz, hl, hi]
  · simp [e]
    have := h2 j hj
    simpa [List.getD_eq_getElem?_getD] using this
/-- A slice that owns a row of 240 bools. -/
theorem row_of_owns {w : World} {B : Nat} {v : Value} {bl : List Bool} (hl : bl.length = 240) (h : w.ownsRow B 4 1 v 240 (bl.map Value.bool)) : ∃ g cap, v = .slice (some ⟨g, 0, none⟩) 240 cap ∧ B ≤ g ∧ BRow w g bl := by
  obtain ⟨_, h2⟩ := h
  rcases h2 with ⟨_, h2⟩ | ⟨g, cap, cur, hv, hg, hh, _, _, _, hcs⟩
  · cases h2
  · refine ⟨g, cap, hv, hg, cur, hh, fun j hj => ?_⟩
    have h3 := congrArg (·[j]?) hcs
    simp only [Nat.mul_one, List.getElem?_take, hj, if_true, List.getElem?_map] at h3
    rw [List.getElem?_eq_getElem (show j < bl.length by omega)] at h3
    simpa [List.getElem?_eq_getElem (show j < bl.length by omega)] using h3
theorem bools_one (bl : List Bool) : ∀ u ∈ bl.map Value.bool, u.oneCell' = true := by
  intro u hu
  rw [List.mem_map] at hu
  obtain ⟨b, _, rfl⟩ := hu
  rfl
theorem news_of_row {w : World} {g : Nat} {bl : List Bool} (h : BRow w g bl) (hl : bl.length = 240) : ∀ (j : Nat) (u : Value), (bl.map Value.bool)[j]? = some u → w.cell? ((⟨g, 0, none⟩ : Addr).add j) = some u := by
  intro j u hj
  have hadd : (⟨g, 0, none⟩ : Addr).add j = ⟨g, j, none⟩ := by unfold Addr.add; split <;> simp_all
  rw [hadd]
  have hj2 : j < 240 := by
    rcases Nat.lt_or_ge j 240 with h | h
    · exact h
    · rw [List.getElem?_eq_none (by rw [List.length_map]; omega)] at hj; cases hj
  rw [h.cell j hj2, ← hj, List.getElem?_map, List.getElem?_eq_getElem (by omega)]
  simp [List.getElem?_eq_getElem (show j < bl.length by omega)]
theorem ofP_with {ns : List Nat} (hs : Set30 ns) (n : Int) (h : inB n = true) : ofP ((bitsK ns 240).set n.toNat true) = withP ns n := by
  obtain ⟨h2, h3⟩ := inB_iff.1 h
  refine (Set30.ofP _).ext (hs.with n) fun i hi => ?_
  rw [mem_ofP _ i hi, mem_with hs hi, h, Bool.true_and, List.getD_eq_getElem?_getD, List.getElem?_set]
  by_cases e : n.toNat = i
  · subst e; simp [bitsK_len, hi]
  · have e2 : decide (i = n.toNat) = false := decide_eq_false (fun h => e h.symm)
    rw [if_neg e, e2, Bool.or_false, ← List.getD_eq_getElem?_getD, bitsK_getD hi]
theorem ofP_without {ns : List Nat} (hs : Set30 ns) (n : Int) (h : inB n = true) : ofP ((bitsK ns 240).set n.toNat false) = withoutP ns n := by
  obtain ⟨h2, h3⟩ := inB_iff.1 h
  refine (Set30.ofP _).ext (hs.without n) fun i hi => ?_
  rw [mem_ofP _ i hi, mem_without hs hi, h, Bool.true_and, List.getD_eq_getElem?_getD, List.getElem?_set]
  by_cases e : n.toNat = i
  · subst e; simp [bitsK_len, hi]
  · have e2 : decide (i = n.toNat) = false := decide_eq_false (fun h => e h.symm)
    rw [if_neg e, e2, Bool.not_false, Bool.and_true, ← List.getD_eq_getElem?_getD, bitsK_getD hi]
theorem ofP_same {ns : List Nat} (hs : Set30 ns) : ofP (bitsK ns 240) = ns :=
  (Set30.ofP _).ext hs fun i hi => by rw [mem_ofP _ i hi, bitsK_getD hi]
/-- t's bits, the first k of them put together with s's. -/
def orK (s t : List Nat) (k : Nat) : List Bool := (List.range 240).map fun i => mem t i || (decide (i < k) && mem s i)
theorem orK_len (s t : List Nat) (k : Nat) : (orK s t k).length = 240 := by simp [orK]
theorem orK_getD (s t : List Nat) (k i : Nat) (hi : i < 240) : (orK s t k).getD i false = (mem t i || (decide (i < k) && mem s i)) := by simp [orK, hi]
theorem orK_zero (s t : List Nat) : orK s t 0 = bitsK t 240 := by simp [orK, bitsK]
theorem orK_succ (s t : List Nat) (k : Nat) (_hk : k < 240) : orK s t (k + 1) = (orK s t k).set k (mem t k || mem s k) := by
  apply List.ext_getElem?
  intro i
  rw [List.getElem?_set]
  by_cases hi : i < 240
  · by_cases e : k = i
    · subst e; simp [orK, hi]
    · have e2 : decide (i < k + 1) = decide (i < k) := decide_eq_decide.2 (by omega)
      simp [orK, hi, e, e2]
  · have e : k ≠ i := by omega
    rw [if_neg e, List.getElem?_eq_none (by rw [orK_len]; omega), List.getElem?_eq_none (by rw [orK_len]; omega)]
theorem ofP_or {s t : List Nat} (hs : Set30 s) (ht : Set30 t) : ofP (orK s t 240) = bothP s t :=
  (Set30.ofP _).ext (hs.both ht) fun i hi => by
    rw [mem_ofP _ i hi, orK_getD s t 240 i hi, mem_both hs ht i hi, decide_eq_true hi, Bool.true_and, Bool.or_comm]

theorem empty33 (w : World) : (Instr.buildSlice 33 0 #[]).run Try.prog w = .ok (.slice (some ⟨w.heap.size, 0, none⟩) 0 0) (w.alloc (.cells #[] 4)) := by kernel_rfl

theorem class_of {B : Nat} {W w : World} (hB : B ≤ W.heap.size) (h : Below B W w) {g cap : Nat} {bl : List Bool} (hg : g < B) (hr : BRow W g bl) : Calls Try.prog 16 #[.slice (some ⟨g, 0, none⟩) 240 cap] w fun e w'' => e = .returned (.agg (Bv (ofP bl))) ∧ Below B W w'' :=
  (of_any bl g cap w (Nat.lt_of_lt_of_le hg (Nat.le_trans hB h.size)) (fun j hj => (hr.later h hg).cell j hj)).mono fun _ _ ⟨he, hb⟩ => ⟨he, h.trans (hb.mono (Nat.le_trans hB h.size))⟩
theorem class_ref {B : Nat} {W w : World} (hB : B ≤ W.heap.size) (h : Below B W w) {ns : List Nat} (n : Int) (hs : Set30 ns) : Calls Try.prog 10 #[.agg (Bv ns), .int .i64 n] w fun e w'' => e = .returned (.bool (hasP ns n)) ∧ Below B W w'' :=
  (refHas_any ns n w hs).mono fun _ _ ⟨he, hb⟩ => ⟨he, h.trans (hb.mono (Nat.le_trans hB h.size))⟩

set_option maxRecDepth 100000 in
set_option maxHeartbeats 4000000 in
theorem plays_in (s : List Nat) (hs : Set30 s) (t : List Nat) (ht : Set30 t) (n : Int) (w : World) (h0 : 0 ≤ n) (h1 : n < 240) :
    Calls Try.prog 6 #[.agg (Bv s), .agg (Bv t), .int .i64 n] w fun e w' => e = .returned (.bool true) ∧ Below w.heap.size w w' := by
  obtain ⟨i0, hi, hz0, hz1, hz2⟩ := info_parts info4
  have KB := Lib.hid (((Below.refl w.heap.size w).alloc (Nat.le_refl _) (.cells (Bv s) 22)).alloc (by simp) (.cells (Bv t) 22))
  have A3 := Lib.hid (show ((w.alloc (.cells (Bv s) 22)).alloc (.cells (Bv t) 22)).heap[w.heap.size]? = _ from heap_alloc2_old w _ _)
  have A4 := Lib.hid (show ((w.alloc (.cells (Bv s) 22)).alloc (.cells (Bv t) 22)).heap[w.heap.size + 1]? = _ from heap_alloc2_new w _ _)
  have LS := Lib.hid (bitsK_len s 240)
  have hinB : inB n = true := inB_iff.2 ⟨h0, h1⟩
  have EW := Lib.hid (show decide (withP s n = ofP ((bitsK s 240).set n.toNat true)) = true by simp [ofP_with hs n hinB])
  have EO := Lib.hid (show decide (withoutP s n = ofP ((bitsK s 240).set n.toNat false)) = true by simp [ofP_without hs n hinB])
  clear hinB
  have hn240 : n.toNat < 240 := by omega
  have EU := Lib.hid (show decide (bothP s t = ofP (orK s t 240)) = true by simp [ofP_or hs ht])
  have EC := Lib.hid (show ((countP s : Int) == (cnt s 240 : Int)) = true by rw [countP_eq hs]; simp)
  have hbs := empty33
  go_enter Try.func6, Try.ntmps6
  go_wp2_with fail
  refine (awake_any _).mono ?_
  rintro e w1 ⟨rfl, hb1⟩
  have A3 := Lib.hid (row_later hb1 A3.out (row_lt A3.out))
  have A4 := Lib.hid (row_later hb1 A4.out (row_lt A4.out))
  have KB := Lib.hid (KB.out.trans (hb1.mono KB.out.size))
  clear hb1
  go_wp2_with (refine load_set rfl (.tmp 3) 22 rfl w.heap.size rfl 22 s hs 5 Try.underlying22 size22 ?_ ?_)
  · exact A3.out
  refine (list_any s hs _).mono ?_
  rintro e w2 ⟨v7, rfl, hown, hb2⟩
  have hown2 : w2.ownsRow w1.heap.size 4 1 v7 240 ((bitsK s 240).map Value.bool) := by unfold OwnsB at hown; rw [LS.out] at hown; exact hown
  obtain ⟨g7, c7, rfl, hg7, hrow7⟩ := row_of_owns LS.out hown2
  have GN7 := Lib.hid (show w.heap.size + 1 < g7 from Nat.lt_of_lt_of_le (row_lt A4.out) hg7)
  have A3 := Lib.hid (row_later hb2 A3.out (row_lt A3.out))
  have A4 := Lib.hid (row_later hb2 A4.out (row_lt A4.out))
  have GE7 := Lib.hid (show w.heap.size ≤ g7 from Nat.le_trans KB.out.size hg7)
  have KB := Lib.hid (KB.out.trans (hb2.mono KB.out.size))
  have R7 := Lib.hid hrow7
  clear hb2 hown hown2 hrow7 hg7
  go_wp2_with fail
  go_loop [8, 9] (fun c i => ∃ k : Nat, k ≤ 240 ∧ i = .int .i64 k ∧ c = .int .i64 (cnt s k : Int)) (fun _ i => 240 - (intOf i).toNat)
  case atStart => exact ⟨0, by omega, rfl, rfl⟩
  case round =>
    obtain ⟨k, hk, rfl, rfl⟩ := hrel
    have hle := cnt_le s k
    by_cases hlt : k < 240
    · have hcell := R7.out.cell k hlt
      rw [bitsK_getD hlt] at hcell
      have HS := Lib.hid (cnt_succ s k)
      cases hm : mem s k with
      | true =>
        rw [hm] at hcell
        have HM := Lib.hid hm
        clear hm
        go_wp2_with fail
        go_round
        case rel => exact ⟨k + 1, by omega, by go_num, by rw [HS.out, HM.out]; go_num⟩
        case measure => simp [intOf]; omega
      | false =>
        rw [hm] at hcell
        have HM := Lib.hid hm
        clear hm
        go_wp2_with fail
        go_round
        case rel => exact ⟨k + 1, by omega, by go_num, by rw [HS.out, HM.out]; rfl⟩
        case measure => simp [intOf]; omega
    · have hk240 : k = 240 := by omega
      subst hk240
      clear hle

      go_wp2_with (at_builtin; refine wpList_append_own _ rfl (.tmp 28) (.tmp 29) 33 rfl w2.heap.size 4 i0 (.bool false) 1 1 Try.underlying33 hi hz0 hz1 hz2 rfl (by decide) _ 0 [] rfl (World.ownsRow_lit w2 #[] 0 (Nat.le_refl _) (by unfold maxLen; omega) rfl) ⟨g7, 0, none⟩ 240 c7 ((bitsK s 240).map Value.bool) rfl (by rw [List.length_map, LS.out]) (news_of_row (R7.out.alloc _) LS.out) (bools_one _) (by unfold maxLen; omega) (by omega) (by simp) ?_)
      intro v10 w3 hown10 hgr10 _
      obtain ⟨g10, c10, rfl, hg10, hrowg10⟩ := row_of_owns LS.out hown10
      have hbl := ((Below.refl w2.heap.size w2).alloc (Nat.le_refl _) (.cells #[] 4)).grown hgr10 (by simp) (fun k hk => by cases hk; exact Nat.le_refl _)
      have A3 := Lib.hid (row_later hbl A3.out (row_lt A3.out))
      have A4 := Lib.hid (row_later hbl A4.out (row_lt A4.out))
      have Ng10 := Lib.hid (show g7 < g10 from Nat.lt_of_lt_of_le R7.out.lt hg10)
      have R7 := Lib.hid (R7.out.later hbl R7.out.lt)
      have KB := Lib.hid (KB.out.trans (hbl.mono KB.out.size))
      have GE10 := Lib.hid (show w.heap.size ≤ g10 from Nat.le_trans GE7.out (Nat.le_of_lt Ng10.out))
      have R10 := Lib.hid hrowg10
      clear hbl hown10 hgr10 hrowg10 hg10
      go_wp2_with (at_builtin; refine wpList_append_own _ rfl (.tmp 31) (.tmp 32) 33 rfl w3.heap.size 4 i0 (.bool false) 1 1 Try.underlying33 hi hz0 hz1 hz2 rfl (by decide) _ 0 [] rfl (World.ownsRow_lit w3 #[] 0 (Nat.le_refl _) (by unfold maxLen; omega) rfl) ⟨g7, 0, none⟩ 240 c7 ((bitsK s 240).map Value.bool) rfl (by rw [List.length_map, LS.out]) (news_of_row (R7.out.alloc _) LS.out) (bools_one _) (by unfold maxLen; omega) (by omega) (by simp) ?_)
      intro v11 w4 hown11 hgr11 _
      obtain ⟨g11, c11, rfl, hg11, hrowg11⟩ := row_of_owns LS.out hown11
      have hbl := ((Below.refl w3.heap.size w3).alloc (Nat.le_refl _) (.cells #[] 4)).grown hgr11 (by simp) (fun k hk => by cases hk; exact Nat.le_refl _)
      have A3 := Lib.hid (row_later hbl A3.out (row_lt A3.out))
      have A4 := Lib.hid (row_later hbl A4.out (row_lt A4.out))
      have Ng11 := Lib.hid (show g7 < g11 from Nat.lt_of_lt_of_le R7.out.lt hg11)
      have N1110 := Lib.hid (show g10 < g11 from Nat.lt_of_lt_of_le R10.out.lt hg11)
      have R7 := Lib.hid (R7.out.later hbl R7.out.lt)
      have R10 := Lib.hid (R10.out.later hbl R10.out.lt)
      have KB := Lib.hid (KB.out.trans (hbl.mono KB.out.size))
      have GE11 := Lib.hid (show w.heap.size ≤ g11 from Nat.le_trans GE7.out (Nat.le_of_lt Ng11.out))
      have R11 := Lib.hid hrowg11
      clear hbl hown11 hgr11 hrowg11 hg11
      have hc10 := R10.out.cell n.toNat hn240
      have hf10 := R10.out.frozen n.toNat
      have R11b := Lib.hid (R11.out.other ⟨g10, n.toNat, none⟩ (by have := N1110.out; simp; omega) (.bool true))
      have hc11 := R11b.out.cell n.toNat hn240
      have hf11 := R11b.out.frozen n.toNat
      have R10b := Lib.hid (R10.out.set n.toNat hn240 LS.out true)
      have R10c := Lib.hid (R10b.out.other ⟨g11, n.toNat, none⟩ (by have := N1110.out; simp; omega) (.bool false))
      have R11c := Lib.hid (R11b.out.set n.toNat hn240 LS.out false)
      have R7c := Lib.hid ((R7.out.other ⟨g10, n.toNat, none⟩ (by have := Ng10.out; simp; omega) (.bool true)).other ⟨g11, n.toNat, none⟩ (by have := Ng11.out; simp; omega) (.bool false))
      have A3c := Lib.hid (show ((w4.setCell ⟨g10, n.toNat, none⟩ (.bool true)).setCell ⟨g11, n.toNat, none⟩ (.bool false)).heap[w.heap.size]? = _ from (heap_setCell_other _ _ _ _ (by have := GE7.out; have := Ng11.out; simp; omega)).trans ((heap_setCell_other _ _ _ _ (by have := GE7.out; have := Ng10.out; simp; omega)).trans A3.out))
      have A4c := Lib.hid (show ((w4.setCell ⟨g10, n.toNat, none⟩ (.bool true)).setCell ⟨g11, n.toNat, none⟩ (.bool false)).heap[w.heap.size + 1]? = _ from (heap_setCell_other _ _ _ _ (by have := GN7.out; have := Ng11.out; simp; omega)).trans ((heap_setCell_other _ _ _ _ (by have := GN7.out; have := Ng10.out; simp; omega)).trans A4.out))
      have KBc := Lib.hid ((KB.out.setCell (p := ⟨g10, n.toNat, none⟩) GE10.out (.bool true)).setCell (p := ⟨g11, n.toNat, none⟩) GE11.out (.bool false))
      go_wp2_with (refine load_set rfl (.tmp 4) 22 rfl (w.heap.size + 1) rfl 22 t ht 5 Try.underlying22 size22 ?_ ?_)
      · exact A4c.out
      refine (list_any t ht _).mono ?_
      rintro e w5 ⟨v12, rfl, hown, hb5⟩
      have hown5 := hown
      unfold OwnsB at hown5
      rw [bitsK_len] at hown5
      obtain ⟨g12, c12, rfl, hg12, hrow12⟩ := row_of_owns (bitsK_len t 240) hown5
      have N127 := Lib.hid (show g7 < g12 from Nat.lt_of_lt_of_le R7c.out.lt hg12)
      have N1210 := Lib.hid (show g10 < g12 from Nat.lt_of_lt_of_le R10c.out.lt hg12)
      have N1211 := Lib.hid (show g11 < g12 from Nat.lt_of_lt_of_le R11c.out.lt hg12)
      have GE12 := Lib.hid (show w.heap.size ≤ g12 from Nat.le_trans GE7.out (Nat.le_of_lt N127.out))
      have A3 := Lib.hid (row_later hb5 A3c.out (row_lt A3c.out))
      have A4 := Lib.hid (row_later hb5 A4c.out (row_lt A4c.out))
      have R7 := Lib.hid (R7c.out.later hb5 R7c.out.lt)
      have R10 := Lib.hid (R10c.out.later hb5 R10c.out.lt)
      have R11 := Lib.hid (R11c.out.later hb5 R11c.out.lt)
      have KB := Lib.hid (KBc.out.trans (hb5.mono KBc.out.size))
      have R12 := Lib.hid hrow12
      clear hb5 hown hown5 hrow12 hg12 hc10 hf10 hc11 hf11
      go_wp2_with fail
      go_loopw [13] (fun i wr => ∃ k : Nat, k ≤ 240 ∧ i = .int .i64 k ∧ BRow wr g12 (orK s t k) ∧ BRow wr g7 (bitsK s 240) ∧ BRow wr g10 ((bitsK s 240).set n.toNat true) ∧ BRow wr g11 ((bitsK s 240).set n.toNat false)
          ∧ wr.heap[w.heap.size]? = some (.cells (Bv s) 22 (0, 0)) ∧ wr.heap[w.heap.size + 1]? = some (.cells (Bv t) 22 (0, 0)) ∧ Below w.heap.size w wr) (fun i _ => 240 - (intOf i).toNat)
      case atStart => exact ⟨0, by omega, rfl, by rw [orK_zero]; exact R12.out, R7.out, R10.out, R11.out, A3.out, A4.out, KB.out⟩
      case round =>
        obtain ⟨k, hk, rfl, r12, r7, r10, r11, a3, a4, kb⟩ := hrel
        have R12 := Lib.hid r12
        have R7 := Lib.hid r7
        have R10 := Lib.hid r10
        have R11 := Lib.hid r11
        have A3 := Lib.hid a3
        have A4 := Lib.hid a4
        have KB := Lib.hid kb
        clear r12 r7 r10 r11 a3 a4 kb
        by_cases hlt : k < 240
        · have hc12 := R12.out.cell k hlt
          have hf12 := R12.out.frozen k
          have hc7 := R7.out.cell k hlt
          rw [orK_getD s t k k hlt, decide_eq_false (Nat.lt_irrefl k), Bool.false_and, Bool.or_false] at hc12
          rw [bitsK_getD hlt] at hc7
          have HS := Lib.hid (orK_succ s t k hlt)
          have HOL := Lib.hid (orK_len s t k)
          cases hmt : mem t k with
          | true =>
            rw [hmt] at hc12
            have HV := Lib.hid (show (mem t k || mem s k) = true by rw [hmt]; rfl)
            clear hc7 hmt
            go_wp2_with fail
            go_roundw
            case rel => exact ⟨k + 1, by omega, by go_num, by rw [HS.out, HV.out]; exact R12.out.set k hlt HOL.out true, R7.out.other _ (by have := N127.out; simp; omega) _, R10.out.other _ (by have := N1210.out; simp; omega) _, R11.out.other _ (by have := N1211.out; simp; omega) _, (heap_setCell_other _ _ _ _ (by have := GE7.out; have := N127.out; simp; omega)).trans A3.out, (heap_setCell_other _ _ _ _ (by have := GN7.out; have := N127.out; simp; omega)).trans A4.out, KB.out.setCell GE12.out _⟩
            case measure => simp [intOf]; omega
          | false =>
            rw [hmt] at hc12
            have HV := Lib.hid (show (mem t k || mem s k) = mem s k by rw [hmt]; rfl)
            clear hmt
            go_wp2_with fail
            go_roundw
            case rel => exact ⟨k + 1, by omega, by go_num, by rw [HS.out, HV.out]; exact R12.out.set k hlt HOL.out (mem s k), R7.out.other _ (by have := N127.out; simp; omega) _, R10.out.other _ (by have := N1210.out; simp; omega) _, R11.out.other _ (by have := N1211.out; simp; omega) _, (heap_setCell_other _ _ _ _ (by have := GE7.out; have := N127.out; simp; omega)).trans A3.out, (heap_setCell_other _ _ _ _ (by have := GN7.out; have := N127.out; simp; omega)).trans A4.out, KB.out.setCell GE12.out _⟩
            case measure => simp [intOf]; omega
        · have hk240 : k = 240 := by omega
          subst hk240
          have RS := Lib.hid KB.out.size
          have EH := Lib.hid (show (hasP s n == hasP s n) = true by simp)
          obtain ⟨W, hW⟩ : ∃ W, W = wr := ⟨_, rfl⟩
          subst hW
          go_wp2_with fail
          refine region_class (fun w' => Below W.heap.size W w') (by kernel_rfl) (by kernel_rfl) (Below.refl _ _).drew ?_
          refine q_val rfl (fun w' hw' => run_load_set 22 (x := .tmp 3) rfl rfl hs Try.underlying22 size22 (row_in hw' A3.out)) ?_
          simp only [Act.put, List.setIfInBounds_toArray, List.set_cons_succ, List.set_cons_zero]
          refine q_move rfl (.tmp 2) rfl ?_
          simp only [Act.put, List.setIfInBounds_toArray, List.set_cons_succ, List.set_cons_zero]
          refine q_call rfl (args := #[.agg (Bv s), .int .i64 n]) (fun w' hw' => run_call2 (u := .agg (Bv s)) (v := .int .i64 n) rfl Try.call11 rfl rfl w') (fun w' hw' => class_has (Nat.le_refl _) hw' n hs) ?_
          simp only [Act.put, List.setIfInBounds_toArray, List.set_cons_succ, List.set_cons_zero]
          refine q_val rfl (fun w' hw' => run_load_set 22 (x := .tmp 3) rfl rfl hs Try.underlying22 size22 (row_in hw' A3.out)) ?_
          simp only [Act.put, List.setIfInBounds_toArray, List.set_cons_succ, List.set_cons_zero]
          refine q_move rfl (.tmp 2) rfl ?_
          simp only [Act.put, List.setIfInBounds_toArray, List.set_cons_succ, List.set_cons_zero]
          refine q_call rfl (args := #[.agg (Bv s), .int .i64 n]) (fun w' hw' => run_call2 (u := .agg (Bv s)) (v := .int .i64 n) rfl Try.call10 rfl rfl w') (fun w' hw' => class_ref (Nat.le_refl _) hw' n hs) ?_
          simp only [Act.put, List.setIfInBounds_toArray, List.set_cons_succ, List.set_cons_zero]
          refine q_val rfl (fun w' hw' => (run_eql_bool_is (x := .tmp 67) (y := .tmp 70) rfl Try.underlying4 rfl rfl true EH.out w')) ?_
          simp only [Act.put, List.setIfInBounds_toArray, List.set_cons_succ, List.set_cons_zero]
          refine q_move rfl (.tmp 71) rfl ?_
          simp only [Act.put, List.setIfInBounds_toArray, List.set_cons_succ, List.set_cons_zero]
          refine q_val rfl (fun w' hw' => run_load_set 22 (x := .tmp 3) rfl rfl hs Try.underlying22 size22 (row_in hw' A3.out)) ?_
          simp only [Act.put, List.setIfInBounds_toArray, List.set_cons_succ, List.set_cons_zero]
          refine q_move rfl (.tmp 2) rfl ?_
          simp only [Act.put, List.setIfInBounds_toArray, List.set_cons_succ, List.set_cons_zero]
          refine q_call rfl (args := #[.agg (Bv s), .int .i64 n]) (fun w' hw' => run_call2 (u := .agg (Bv s)) (v := .int .i64 n) rfl Try.call12 rfl rfl w') (fun w' hw' => class_with (Nat.le_refl _) hw' n hs) ?_
          simp only [Act.put, List.setIfInBounds_toArray, List.set_cons_succ, List.set_cons_zero]
          refine q_move rfl (.tmp 10) rfl ?_
          simp only [Act.put, List.setIfInBounds_toArray, List.set_cons_succ, List.set_cons_zero]
          refine q_call rfl (args := #[.slice (some ⟨g10, 0, none⟩) 240 c10]) (fun w' hw' => run_call1 (u := .slice (some ⟨g10, 0, none⟩) 240 c10) rfl Try.call16 rfl w') (fun w' hw' => class_of (Nat.le_refl _) hw' R10.out.lt R10.out) ?_
          simp only [Act.put, List.setIfInBounds_toArray, List.set_cons_succ, List.set_cons_zero]
          refine q_val rfl (fun w' hw' => run_eql_set (x := .tmp 75) (y := .tmp 77) rfl (hs.with n) (Set30.ofP ((bitsK s 240).set n.toNat true)) rfl rfl true EW.out w') ?_
          simp only [Act.put, List.setIfInBounds_toArray, List.set_cons_succ, List.set_cons_zero]
          refine q_val rfl (fun w' hw' => run_pick (c := .tmp 72) (a := .tmp 78) (b := .const (.bool false)) rfl (t := true) rfl w') ?_
          simp only [Act.put, List.setIfInBounds_toArray, List.set_cons_succ, List.set_cons_zero]
          refine q_move rfl (.tmp 79) rfl ?_
          simp only [Act.put, List.setIfInBounds_toArray, List.set_cons_succ, List.set_cons_zero]
          refine q_val rfl (fun w' hw' => run_load_set 22 (x := .tmp 3) rfl rfl hs Try.underlying22 size22 (row_in hw' A3.out)) ?_
          simp only [Act.put, List.setIfInBounds_toArray, List.set_cons_succ, List.set_cons_zero]
          refine q_move rfl (.tmp 2) rfl ?_
          simp only [Act.put, List.setIfInBounds_toArray, List.set_cons_succ, List.set_cons_zero]
          refine q_call rfl (args := #[.agg (Bv s), .int .i64 n]) (fun w' hw' => run_call2 (u := .agg (Bv s)) (v := .int .i64 n) rfl Try.call14 rfl rfl w') (fun w' hw' => class_without (Nat.le_refl _) hw' n hs) ?_
          simp only [Act.put, List.setIfInBounds_toArray, List.set_cons_succ, List.set_cons_zero]
          refine q_move rfl (.tmp 11) rfl ?_
          simp only [Act.put, List.setIfInBounds_toArray, List.set_cons_succ, List.set_cons_zero]
          refine q_call rfl (args := #[.slice (some ⟨g11, 0, none⟩) 240 c11]) (fun w' hw' => run_call1 (u := .slice (some ⟨g11, 0, none⟩) 240 c11) rfl Try.call16 rfl w') (fun w' hw' => class_of (Nat.le_refl _) hw' R11.out.lt R11.out) ?_
          simp only [Act.put, List.setIfInBounds_toArray, List.set_cons_succ, List.set_cons_zero]
          refine q_val rfl (fun w' hw' => run_eql_set (x := .tmp 83) (y := .tmp 85) rfl (hs.without n) (Set30.ofP ((bitsK s 240).set n.toNat false)) rfl rfl true EO.out w') ?_
          simp only [Act.put, List.setIfInBounds_toArray, List.set_cons_succ, List.set_cons_zero]
          refine q_val rfl (fun w' hw' => run_pick (c := .tmp 80) (a := .tmp 86) (b := .const (.bool false)) rfl (t := true) rfl w') ?_
          simp only [Act.put, List.setIfInBounds_toArray, List.set_cons_succ, List.set_cons_zero]
          refine q_move rfl (.tmp 87) rfl ?_
          simp only [Act.put, List.setIfInBounds_toArray, List.set_cons_succ, List.set_cons_zero]
          refine q_val rfl (fun w' hw' => run_load_set 22 (x := .tmp 3) rfl rfl hs Try.underlying22 size22 (row_in hw' A3.out)) ?_
          simp only [Act.put, List.setIfInBounds_toArray, List.set_cons_succ, List.set_cons_zero]
          refine q_call rfl (args := #[.agg (Bv s)]) (fun w' hw' => run_call1 (u := .agg (Bv s)) rfl Try.call13 rfl w') (fun w' hw' => class_count (Nat.le_refl _) hw' hs) ?_
          simp only [Act.put, List.setIfInBounds_toArray, List.set_cons_succ, List.set_cons_zero]
          refine q_move rfl (.tmp 8) rfl ?_
          simp only [Act.put, List.setIfInBounds_toArray, List.set_cons_succ, List.set_cons_zero]
          refine q_val rfl (fun w' hw' => (run_eql_int_is (x := .tmp 90) (y := .tmp 91) rfl rfl rfl true EC.out w')) ?_
          simp only [Act.put, List.setIfInBounds_toArray, List.set_cons_succ, List.set_cons_zero]
          refine q_val rfl (fun w' hw' => run_pick (c := .tmp 88) (a := .tmp 92) (b := .const (.bool false)) rfl (t := true) rfl w') ?_
          simp only [Act.put, List.setIfInBounds_toArray, List.set_cons_succ, List.set_cons_zero]
          refine q_move rfl (.tmp 93) rfl ?_
          simp only [Act.put, List.setIfInBounds_toArray, List.set_cons_succ, List.set_cons_zero]
          refine q_val rfl (fun w' hw' => run_load_set 22 (x := .tmp 3) rfl rfl hs Try.underlying22 size22 (row_in hw' A3.out)) ?_
          simp only [Act.put, List.setIfInBounds_toArray, List.set_cons_succ, List.set_cons_zero]
          refine q_val rfl (fun w' hw' => run_load_set 22 (x := .tmp 4) rfl rfl ht Try.underlying22 size22 (row_in hw' A4.out)) ?_
          simp only [Act.put, List.setIfInBounds_toArray, List.set_cons_succ, List.set_cons_zero]
          refine q_call rfl (args := #[.agg (Bv s), .agg (Bv t)]) (fun w' hw' => run_call2 (u := .agg (Bv s)) (v := .agg (Bv t)) rfl Try.call17 rfl rfl w') (fun w' hw' => class_both (Nat.le_refl _) hw' hs ht) ?_
          simp only [Act.put, List.setIfInBounds_toArray, List.set_cons_succ, List.set_cons_zero]
          refine q_move rfl (.tmp 12) rfl ?_
          simp only [Act.put, List.setIfInBounds_toArray, List.set_cons_succ, List.set_cons_zero]
          refine q_call rfl (args := #[.slice (some ⟨g12, 0, none⟩) 240 c12]) (fun w' hw' => run_call1 (u := .slice (some ⟨g12, 0, none⟩) 240 c12) rfl Try.call16 rfl w') (fun w' hw' => class_of (Nat.le_refl _) hw' R12.out.lt R12.out) ?_
          simp only [Act.put, List.setIfInBounds_toArray, List.set_cons_succ, List.set_cons_zero]
          refine q_val rfl (fun w' hw' => run_eql_set (x := .tmp 97) (y := .tmp 99) rfl (hs.both ht) (Set30.ofP (orK s t 240)) rfl rfl true EU.out w') ?_
          simp only [Act.put, List.setIfInBounds_toArray, List.set_cons_succ, List.set_cons_zero]
          refine q_val rfl (fun w' hw' => run_pick (c := .tmp 94) (a := .tmp 100) (b := .const (.bool false)) rfl (t := true) rfl w') ?_
          simp only [Act.put, List.setIfInBounds_toArray, List.set_cons_succ, List.set_cons_zero]
          refine q_assign rfl (.tmp 101) rfl ?_
          simp only [Act.put, List.setIfInBounds_toArray, List.set_cons_succ, List.set_cons_zero]
          refine wpQuiet_nil ?_
          intro w' hw'
          go_wp2
          go_ret
          exact ⟨rfl, KB.out.trans (hw'.mono RS.out)⟩

set_option maxRecDepth 100000 in
set_option maxHeartbeats 4000000 in
theorem plays_out (s : List Nat) (hs : Set30 s) (t : List Nat) (ht : Set30 t) (n : Int) (w : World) (hor : n < 0 ∨ 240 ≤ n) :
    Calls Try.prog 6 #[.agg (Bv s), .agg (Bv t), .int .i64 n] w fun e w' => e = .returned (.bool true) ∧ Below w.heap.size w w' := by
  obtain ⟨i0, hi, hz0, hz1, hz2⟩ := info_parts info4
  have KB := Lib.hid (((Below.refl w.heap.size w).alloc (Nat.le_refl _) (.cells (Bv s) 22)).alloc (by simp) (.cells (Bv t) 22))
  have A3 := Lib.hid (show ((w.alloc (.cells (Bv s) 22)).alloc (.cells (Bv t) 22)).heap[w.heap.size]? = _ from heap_alloc2_old w _ _)
  have A4 := Lib.hid (show ((w.alloc (.cells (Bv s) 22)).alloc (.cells (Bv t) 22)).heap[w.heap.size + 1]? = _ from heap_alloc2_new w _ _)
  have LS := Lib.hid (bitsK_len s 240)
  have hinB : inB n = false := by simp [inB]; omega
  have EW := Lib.hid (show decide (withP s n = ofP (bitsK s 240)) = true by simp [ofP_same hs, out_with hinB])
  have EO := Lib.hid (show decide (withoutP s n = ofP (bitsK s 240)) = true by simp [ofP_same hs, out_without hinB])
  clear hinB
  have EU := Lib.hid (show decide (bothP s t = ofP (orK s t 240)) = true by simp [ofP_or hs ht])
  have EC := Lib.hid (show ((countP s : Int) == (cnt s 240 : Int)) = true by rw [countP_eq hs]; simp)
  have hbs := empty33
  go_enter Try.func6, Try.ntmps6
  go_wp2_with fail
  refine (awake_any _).mono ?_
  rintro e w1 ⟨rfl, hb1⟩
  have A3 := Lib.hid (row_later hb1 A3.out (row_lt A3.out))
  have A4 := Lib.hid (row_later hb1 A4.out (row_lt A4.out))
  have KB := Lib.hid (KB.out.trans (hb1.mono KB.out.size))
  clear hb1
  go_wp2_with (refine load_set rfl (.tmp 3) 22 rfl w.heap.size rfl 22 s hs 5 Try.underlying22 size22 ?_ ?_)
  · exact A3.out
  refine (list_any s hs _).mono ?_
  rintro e w2 ⟨v7, rfl, hown, hb2⟩
  have hown2 : w2.ownsRow w1.heap.size 4 1 v7 240 ((bitsK s 240).map Value.bool) := by unfold OwnsB at hown; rw [LS.out] at hown; exact hown
  obtain ⟨g7, c7, rfl, hg7, hrow7⟩ := row_of_owns LS.out hown2
  have GN7 := Lib.hid (show w.heap.size + 1 < g7 from Nat.lt_of_lt_of_le (row_lt A4.out) hg7)
  have A3 := Lib.hid (row_later hb2 A3.out (row_lt A3.out))
  have A4 := Lib.hid (row_later hb2 A4.out (row_lt A4.out))
  have GE7 := Lib.hid (show w.heap.size ≤ g7 from Nat.le_trans KB.out.size hg7)
  have KB := Lib.hid (KB.out.trans (hb2.mono KB.out.size))
  have R7 := Lib.hid hrow7
  clear hb2 hown hown2 hrow7 hg7
  go_wp2_with fail
  go_loop [8, 9] (fun c i => ∃ k : Nat, k ≤ 240 ∧ i = .int .i64 k ∧ c = .int .i64 (cnt s k : Int)) (fun _ i => 240 - (intOf i).toNat)
  case atStart => exact ⟨0, by omega, rfl, rfl⟩
  case round =>
    obtain ⟨k, hk, rfl, rfl⟩ := hrel
    have hle := cnt_le s k
    by_cases hlt : k < 240
    · have hcell := R7.out.cell k hlt
      rw [bitsK_getD hlt] at hcell
      have HS := Lib.hid (cnt_succ s k)
      cases hm : mem s k with
      | true =>
        rw [hm] at hcell
        have HM := Lib.hid hm
        clear hm
        go_wp2_with fail
        go_round
        case rel => exact ⟨k + 1, by omega, by go_num, by rw [HS.out, HM.out]; go_num⟩
        case measure => simp [intOf]; omega
      | false =>
        rw [hm] at hcell
        have HM := Lib.hid hm
        clear hm
        go_wp2_with fail
        go_round
        case rel => exact ⟨k + 1, by omega, by go_num, by rw [HS.out, HM.out]; rfl⟩
        case measure => simp [intOf]; omega
    · have hk240 : k = 240 := by omega
      subst hk240
      clear hle

      go_wp2_with (at_builtin; refine wpList_append_own _ rfl (.tmp 28) (.tmp 29) 33 rfl w2.heap.size 4 i0 (.bool false) 1 1 Try.underlying33 hi hz0 hz1 hz2 rfl (by decide) _ 0 [] rfl (World.ownsRow_lit w2 #[] 0 (Nat.le_refl _) (by unfold maxLen; omega) rfl) ⟨g7, 0, none⟩ 240 c7 ((bitsK s 240).map Value.bool) rfl (by rw [List.length_map, LS.out]) (news_of_row (R7.out.alloc _) LS.out) (bools_one _) (by unfold maxLen; omega) (by omega) (by simp) ?_)
      intro v10 w3 hown10 hgr10 _
      obtain ⟨g10, c10, rfl, hg10, hrowg10⟩ := row_of_owns LS.out hown10
      have hbl := ((Below.refl w2.heap.size w2).alloc (Nat.le_refl _) (.cells #[] 4)).grown hgr10 (by simp) (fun k hk => by cases hk; exact Nat.le_refl _)
      have A3 := Lib.hid (row_later hbl A3.out (row_lt A3.out))
      have A4 := Lib.hid (row_later hbl A4.out (row_lt A4.out))
      have Ng10 := Lib.hid (show g7 < g10 from Nat.lt_of_lt_of_le R7.out.lt hg10)
      have R7 := Lib.hid (R7.out.later hbl R7.out.lt)
      have KB := Lib.hid (KB.out.trans (hbl.mono KB.out.size))
      have GE10 := Lib.hid (show w.heap.size ≤ g10 from Nat.le_trans GE7.out (Nat.le_of_lt Ng10.out))
      have R10 := Lib.hid hrowg10
      clear hbl hown10 hgr10 hrowg10 hg10
      go_wp2_with (at_builtin; refine wpList_append_own _ rfl (.tmp 31) (.tmp 32) 33 rfl w3.heap.size 4 i0 (.bool false) 1 1 Try.underlying33 hi hz0 hz1 hz2 rfl (by decide) _ 0 [] rfl (World.ownsRow_lit w3 #[] 0 (Nat.le_refl _) (by unfold maxLen; omega) rfl) ⟨g7, 0, none⟩ 240 c7 ((bitsK s 240).map Value.bool) rfl (by rw [List.length_map, LS.out]) (news_of_row (R7.out.alloc _) LS.out) (bools_one _) (by unfold maxLen; omega) (by omega) (by simp) ?_)
      intro v11 w4 hown11 hgr11 _
      obtain ⟨g11, c11, rfl, hg11, hrowg11⟩ := row_of_owns LS.out hown11
      have hbl := ((Below.refl w3.heap.size w3).alloc (Nat.le_refl _) (.cells #[] 4)).grown hgr11 (by simp) (fun k hk => by cases hk; exact Nat.le_refl _)
      have A3 := Lib.hid (row_later hbl A3.out (row_lt A3.out))
      have A4 := Lib.hid (row_later hbl A4.out (row_lt A4.out))
      have Ng11 := Lib.hid (show g7 < g11 from Nat.lt_of_lt_of_le R7.out.lt hg11)
      have N1110 := Lib.hid (show g10 < g11 from Nat.lt_of_lt_of_le R10.out.lt hg11)
      have R7 := Lib.hid (R7.out.later hbl R7.out.lt)
      have R10 := Lib.hid (R10.out.later hbl R10.out.lt)
      have KB := Lib.hid (KB.out.trans (hbl.mono KB.out.size))
      have GE11 := Lib.hid (show w.heap.size ≤ g11 from Nat.le_trans GE7.out (Nat.le_of_lt Ng11.out))
      have R11 := Lib.hid hrowg11
      clear hbl hown11 hgr11 hrowg11 hg11
      have hor2 : (¬ 0 ≤ n ∧ decide (0 ≤ n) = false) ∨ (0 ≤ n ∧ decide (n < 240) = false) := by
        rcases hor with h | h
        · exact .inl ⟨by omega, decide_eq_false (by omega)⟩
        · exact .inr ⟨by omega, decide_eq_false (by omega)⟩
      clear hor
      rcases hor2 with ⟨hor, hor2⟩ | ⟨hor, hor2⟩
      · go_wp2_with (refine load_set rfl (.tmp 4) 22 rfl (w.heap.size + 1) rfl 22 t ht 5 Try.underlying22 size22 ?_ ?_)
        · exact A4.out
        refine (list_any t ht _).mono ?_
        rintro e w5 ⟨v12, rfl, hown, hb5⟩
        have hown5 := hown
        unfold OwnsB at hown5
        rw [bitsK_len] at hown5
        obtain ⟨g12, c12, rfl, hg12, hrow12⟩ := row_of_owns (bitsK_len t 240) hown5
        have N127 := Lib.hid (show g7 < g12 from Nat.lt_of_lt_of_le R7.out.lt hg12)
        have N1210 := Lib.hid (show g10 < g12 from Nat.lt_of_lt_of_le R10.out.lt hg12)
        have N1211 := Lib.hid (show g11 < g12 from Nat.lt_of_lt_of_le R11.out.lt hg12)
        have GE12 := Lib.hid (show w.heap.size ≤ g12 from Nat.le_trans GE7.out (Nat.le_of_lt N127.out))
        have A3 := Lib.hid (row_later hb5 A3.out (row_lt A3.out))
        have A4 := Lib.hid (row_later hb5 A4.out (row_lt A4.out))
        have R7 := Lib.hid (R7.out.later hb5 R7.out.lt)
        have R10 := Lib.hid (R10.out.later hb5 R10.out.lt)
        have R11 := Lib.hid (R11.out.later hb5 R11.out.lt)
        have KB := Lib.hid (KB.out.trans (hb5.mono KB.out.size))
        have R12 := Lib.hid hrow12
        clear hb5 hown hown5 hrow12 hg12
        go_wp2_with fail
        go_loopw [13] (fun i wr => ∃ k : Nat, k ≤ 240 ∧ i = .int .i64 k ∧ BRow wr g12 (orK s t k) ∧ BRow wr g7 (bitsK s 240) ∧ BRow wr g10 (bitsK s 240) ∧ BRow wr g11 (bitsK s 240)
            ∧ wr.heap[w.heap.size]? = some (.cells (Bv s) 22 (0, 0)) ∧ wr.heap[w.heap.size + 1]? = some (.cells (Bv t) 22 (0, 0)) ∧ Below w.heap.size w wr) (fun i _ => 240 - (intOf i).toNat)
        case atStart => exact ⟨0, by omega, rfl, by rw [orK_zero]; exact R12.out, R7.out, R10.out, R11.out, A3.out, A4.out, KB.out⟩
        case round =>
          obtain ⟨k, hk, rfl, r12, r7, r10, r11, a3, a4, kb⟩ := hrel
          have R12 := Lib.hid r12
          have R7 := Lib.hid r7
          have R10 := Lib.hid r10
          have R11 := Lib.hid r11
          have A3 := Lib.hid a3
          have A4 := Lib.hid a4
          have KB := Lib.hid kb
          clear r12 r7 r10 r11 a3 a4 kb
          by_cases hlt : k < 240
          · have hc12 := R12.out.cell k hlt
            have hf12 := R12.out.frozen k
            have hc7 := R7.out.cell k hlt
            rw [orK_getD s t k k hlt, decide_eq_false (Nat.lt_irrefl k), Bool.false_and, Bool.or_false] at hc12
            rw [bitsK_getD hlt] at hc7
            have HS := Lib.hid (orK_succ s t k hlt)
            have HOL := Lib.hid (orK_len s t k)
            cases hmt : mem t k with
            | true =>
              rw [hmt] at hc12
              have HV := Lib.hid (show (mem t k || mem s k) = true by rw [hmt]; rfl)
              clear hc7 hmt
              go_wp2_with fail
              go_roundw
              case rel => exact ⟨k + 1, by omega, by go_num, by rw [HS.out, HV.out]; exact R12.out.set k hlt HOL.out true, R7.out.other _ (by have := N127.out; simp; omega) _, R10.out.other _ (by have := N1210.out; simp; omega) _, R11.out.other _ (by have := N1211.out; simp; omega) _, (heap_setCell_other _ _ _ _ (by have := GE7.out; have := N127.out; simp; omega)).trans A3.out, (heap_setCell_other _ _ _ _ (by have := GN7.out; have := N127.out; simp; omega)).trans A4.out, KB.out.setCell GE12.out _⟩
              case measure => simp [intOf]; omega
            | false =>
              rw [hmt] at hc12
              have HV := Lib.hid (show (mem t k || mem s k) = mem s k by rw [hmt]; rfl)
              clear hmt
              go_wp2_with fail
              go_roundw
              case rel => exact ⟨k + 1, by omega, by go_num, by rw [HS.out, HV.out]; exact R12.out.set k hlt HOL.out (mem s k), R7.out.other _ (by have := N127.out; simp; omega) _, R10.out.other _ (by have := N1210.out; simp; omega) _, R11.out.other _ (by have := N1211.out; simp; omega) _, (heap_setCell_other _ _ _ _ (by have := GE7.out; have := N127.out; simp; omega)).trans A3.out, (heap_setCell_other _ _ _ _ (by have := GN7.out; have := N127.out; simp; omega)).trans A4.out, KB.out.setCell GE12.out _⟩
              case measure => simp [intOf]; omega
          · have hk240 : k = 240 := by omega
            subst hk240
            have RS := Lib.hid KB.out.size
            have EH := Lib.hid (show (hasP s n == hasP s n) = true by simp)
            obtain ⟨W, hW⟩ : ∃ W, W = wr := ⟨_, rfl⟩
            subst hW
            go_wp2_with fail
            refine region_class (fun w' => Below W.heap.size W w') (by kernel_rfl) (by kernel_rfl) (Below.refl _ _).drew ?_
            refine q_val rfl (fun w' hw' => run_load_set 22 (x := .tmp 3) rfl rfl hs Try.underlying22 size22 (row_in hw' A3.out)) ?_
            simp only [Act.put, List.setIfInBounds_toArray, List.set_cons_succ, List.set_cons_zero]
            refine q_move rfl (.tmp 2) rfl ?_
            simp only [Act.put, List.setIfInBounds_toArray, List.set_cons_succ, List.set_cons_zero]
            refine q_call rfl (args := #[.agg (Bv s), .int .i64 n]) (fun w' hw' => run_call2 (u := .agg (Bv s)) (v := .int .i64 n) rfl Try.call11 rfl rfl w') (fun w' hw' => class_has (Nat.le_refl _) hw' n hs) ?_
            simp only [Act.put, List.setIfInBounds_toArray, List.set_cons_succ, List.set_cons_zero]
            refine q_val rfl (fun w' hw' => run_load_set 22 (x := .tmp 3) rfl rfl hs Try.underlying22 size22 (row_in hw' A3.out)) ?_
            simp only [Act.put, List.setIfInBounds_toArray, List.set_cons_succ, List.set_cons_zero]
            refine q_move rfl (.tmp 2) rfl ?_
            simp only [Act.put, List.setIfInBounds_toArray, List.set_cons_succ, List.set_cons_zero]
            refine q_call rfl (args := #[.agg (Bv s), .int .i64 n]) (fun w' hw' => run_call2 (u := .agg (Bv s)) (v := .int .i64 n) rfl Try.call10 rfl rfl w') (fun w' hw' => class_ref (Nat.le_refl _) hw' n hs) ?_
            simp only [Act.put, List.setIfInBounds_toArray, List.set_cons_succ, List.set_cons_zero]
            refine q_val rfl (fun w' hw' => (run_eql_bool_is (x := .tmp 67) (y := .tmp 70) rfl Try.underlying4 rfl rfl true EH.out w')) ?_
            simp only [Act.put, List.setIfInBounds_toArray, List.set_cons_succ, List.set_cons_zero]
            refine q_move rfl (.tmp 71) rfl ?_
            simp only [Act.put, List.setIfInBounds_toArray, List.set_cons_succ, List.set_cons_zero]
            refine q_val rfl (fun w' hw' => run_load_set 22 (x := .tmp 3) rfl rfl hs Try.underlying22 size22 (row_in hw' A3.out)) ?_
            simp only [Act.put, List.setIfInBounds_toArray, List.set_cons_succ, List.set_cons_zero]
            refine q_move rfl (.tmp 2) rfl ?_
            simp only [Act.put, List.setIfInBounds_toArray, List.set_cons_succ, List.set_cons_zero]
            refine q_call rfl (args := #[.agg (Bv s), .int .i64 n]) (fun w' hw' => run_call2 (u := .agg (Bv s)) (v := .int .i64 n) rfl Try.call12 rfl rfl w') (fun w' hw' => class_with (Nat.le_refl _) hw' n hs) ?_
            simp only [Act.put, List.setIfInBounds_toArray, List.set_cons_succ, List.set_cons_zero]
            refine q_move rfl (.tmp 10) rfl ?_
            simp only [Act.put, List.setIfInBounds_toArray, List.set_cons_succ, List.set_cons_zero]
            refine q_call rfl (args := #[.slice (some ⟨g10, 0, none⟩) 240 c10]) (fun w' hw' => run_call1 (u := .slice (some ⟨g10, 0, none⟩) 240 c10) rfl Try.call16 rfl w') (fun w' hw' => class_of (Nat.le_refl _) hw' R10.out.lt R10.out) ?_
            simp only [Act.put, List.setIfInBounds_toArray, List.set_cons_succ, List.set_cons_zero]
            refine q_val rfl (fun w' hw' => run_eql_set (x := .tmp 75) (y := .tmp 77) rfl (hs.with n) (Set30.ofP (bitsK s 240)) rfl rfl true EW.out w') ?_
            simp only [Act.put, List.setIfInBounds_toArray, List.set_cons_succ, List.set_cons_zero]
            refine q_val rfl (fun w' hw' => run_pick (c := .tmp 72) (a := .tmp 78) (b := .const (.bool false)) rfl (t := true) rfl w') ?_
            simp only [Act.put, List.setIfInBounds_toArray, List.set_cons_succ, List.set_cons_zero]
            refine q_move rfl (.tmp 79) rfl ?_
            simp only [Act.put, List.setIfInBounds_toArray, List.set_cons_succ, List.set_cons_zero]
            refine q_val rfl (fun w' hw' => run_load_set 22 (x := .tmp 3) rfl rfl hs Try.underlying22 size22 (row_in hw' A3.out)) ?_
            simp only [Act.put, List.setIfInBounds_toArray, List.set_cons_succ, List.set_cons_zero]
            refine q_move rfl (.tmp 2) rfl ?_
            simp only [Act.put, List.setIfInBounds_toArray, List.set_cons_succ, List.set_cons_zero]
            refine q_call rfl (args := #[.agg (Bv s), .int .i64 n]) (fun w' hw' => run_call2 (u := .agg (Bv s)) (v := .int .i64 n) rfl Try.call14 rfl rfl w') (fun w' hw' => class_without (Nat.le_refl _) hw' n hs) ?_
            simp only [Act.put, List.setIfInBounds_toArray, List.set_cons_succ, List.set_cons_zero]
            refine q_move rfl (.tmp 11) rfl ?_
            simp only [Act.put, List.setIfInBounds_toArray, List.set_cons_succ, List.set_cons_zero]
            refine q_call rfl (args := #[.slice (some ⟨g11, 0, none⟩) 240 c11]) (fun w' hw' => run_call1 (u := .slice (some ⟨g11, 0, none⟩) 240 c11) rfl Try.call16 rfl w') (fun w' hw' => class_of (Nat.le_refl _) hw' R11.out.lt R11.out) ?_
            simp only [Act.put, List.setIfInBounds_toArray, List.set_cons_succ, List.set_cons_zero]
            refine q_val rfl (fun w' hw' => run_eql_set (x := .tmp 83) (y := .tmp 85) rfl (hs.without n) (Set30.ofP (bitsK s 240)) rfl rfl true EO.out w') ?_
            simp only [Act.put, List.setIfInBounds_toArray, List.set_cons_succ, List.set_cons_zero]
            refine q_val rfl (fun w' hw' => run_pick (c := .tmp 80) (a := .tmp 86) (b := .const (.bool false)) rfl (t := true) rfl w') ?_
            simp only [Act.put, List.setIfInBounds_toArray, List.set_cons_succ, List.set_cons_zero]
            refine q_move rfl (.tmp 87) rfl ?_
            simp only [Act.put, List.setIfInBounds_toArray, List.set_cons_succ, List.set_cons_zero]
            refine q_val rfl (fun w' hw' => run_load_set 22 (x := .tmp 3) rfl rfl hs Try.underlying22 size22 (row_in hw' A3.out)) ?_
            simp only [Act.put, List.setIfInBounds_toArray, List.set_cons_succ, List.set_cons_zero]
            refine q_call rfl (args := #[.agg (Bv s)]) (fun w' hw' => run_call1 (u := .agg (Bv s)) rfl Try.call13 rfl w') (fun w' hw' => class_count (Nat.le_refl _) hw' hs) ?_
            simp only [Act.put, List.setIfInBounds_toArray, List.set_cons_succ, List.set_cons_zero]
            refine q_move rfl (.tmp 8) rfl ?_
            simp only [Act.put, List.setIfInBounds_toArray, List.set_cons_succ, List.set_cons_zero]
            refine q_val rfl (fun w' hw' => (run_eql_int_is (x := .tmp 90) (y := .tmp 91) rfl rfl rfl true EC.out w')) ?_
            simp only [Act.put, List.setIfInBounds_toArray, List.set_cons_succ, List.set_cons_zero]
            refine q_val rfl (fun w' hw' => run_pick (c := .tmp 88) (a := .tmp 92) (b := .const (.bool false)) rfl (t := true) rfl w') ?_
            simp only [Act.put, List.setIfInBounds_toArray, List.set_cons_succ, List.set_cons_zero]
            refine q_move rfl (.tmp 93) rfl ?_
            simp only [Act.put, List.setIfInBounds_toArray, List.set_cons_succ, List.set_cons_zero]
            refine q_val rfl (fun w' hw' => run_load_set 22 (x := .tmp 3) rfl rfl hs Try.underlying22 size22 (row_in hw' A3.out)) ?_
            simp only [Act.put, List.setIfInBounds_toArray, List.set_cons_succ, List.set_cons_zero]
            refine q_val rfl (fun w' hw' => run_load_set 22 (x := .tmp 4) rfl rfl ht Try.underlying22 size22 (row_in hw' A4.out)) ?_
            simp only [Act.put, List.setIfInBounds_toArray, List.set_cons_succ, List.set_cons_zero]
            refine q_call rfl (args := #[.agg (Bv s), .agg (Bv t)]) (fun w' hw' => run_call2 (u := .agg (Bv s)) (v := .agg (Bv t)) rfl Try.call17 rfl rfl w') (fun w' hw' => class_both (Nat.le_refl _) hw' hs ht) ?_
            simp only [Act.put, List.setIfInBounds_toArray, List.set_cons_succ, List.set_cons_zero]
            refine q_move rfl (.tmp 12) rfl ?_
            simp only [Act.put, List.setIfInBounds_toArray, List.set_cons_succ, List.set_cons_zero]
            refine q_call rfl (args := #[.slice (some ⟨g12, 0, none⟩) 240 c12]) (fun w' hw' => run_call1 (u := .slice (some ⟨g12, 0, none⟩) 240 c12) rfl Try.call16 rfl w') (fun w' hw' => class_of (Nat.le_refl _) hw' R12.out.lt R12.out) ?_
            simp only [Act.put, List.setIfInBounds_toArray, List.set_cons_succ, List.set_cons_zero]
            refine q_val rfl (fun w' hw' => run_eql_set (x := .tmp 97) (y := .tmp 99) rfl (hs.both ht) (Set30.ofP (orK s t 240)) rfl rfl true EU.out w') ?_
            simp only [Act.put, List.setIfInBounds_toArray, List.set_cons_succ, List.set_cons_zero]
            refine q_val rfl (fun w' hw' => run_pick (c := .tmp 94) (a := .tmp 100) (b := .const (.bool false)) rfl (t := true) rfl w') ?_
            simp only [Act.put, List.setIfInBounds_toArray, List.set_cons_succ, List.set_cons_zero]
            refine q_assign rfl (.tmp 101) rfl ?_
            simp only [Act.put, List.setIfInBounds_toArray, List.set_cons_succ, List.set_cons_zero]
            refine wpQuiet_nil ?_
            intro w' hw'
            go_wp2
            go_ret
            exact ⟨rfl, KB.out.trans (hw'.mono RS.out)⟩
      · go_wp2_with (refine load_set rfl (.tmp 4) 22 rfl (w.heap.size + 1) rfl 22 t ht 5 Try.underlying22 size22 ?_ ?_)
        · exact A4.out
        refine (list_any t ht _).mono ?_
        rintro e w5 ⟨v12, rfl, hown, hb5⟩
        have hown5 := hown
        unfold OwnsB at hown5
        rw [bitsK_len] at hown5
        obtain ⟨g12, c12, rfl, hg12, hrow12⟩ := row_of_owns (bitsK_len t 240) hown5
        have N127 := Lib.hid (show g7 < g12 from Nat.lt_of_lt_of_le R7.out.lt hg12)
        have N1210 := Lib.hid (show g10 < g12 from Nat.lt_of_lt_of_le R10.out.lt hg12)
        have N1211 := Lib.hid (show g11 < g12 from Nat.lt_of_lt_of_le R11.out.lt hg12)
        have GE12 := Lib.hid (show w.heap.size ≤ g12 from Nat.le_trans GE7.out (Nat.le_of_lt N127.out))
        have A3 := Lib.hid (row_later hb5 A3.out (row_lt A3.out))
        have A4 := Lib.hid (row_later hb5 A4.out (row_lt A4.out))
        have R7 := Lib.hid (R7.out.later hb5 R7.out.lt)
        have R10 := Lib.hid (R10.out.later hb5 R10.out.lt)
        have R11 := Lib.hid (R11.out.later hb5 R11.out.lt)
        have KB := Lib.hid (KB.out.trans (hb5.mono KB.out.size))
        have R12 := Lib.hid hrow12
        clear hb5 hown hown5 hrow12 hg12
        go_wp2_with fail
        go_loopw [13] (fun i wr => ∃ k : Nat, k ≤ 240 ∧ i = .int .i64 k ∧ BRow wr g12 (orK s t k) ∧ BRow wr g7 (bitsK s 240) ∧ BRow wr g10 (bitsK s 240) ∧ BRow wr g11 (bitsK s 240)
            ∧ wr.heap[w.heap.size]? = some (.cells (Bv s) 22 (0, 0)) ∧ wr.heap[w.heap.size + 1]? = some (.cells (Bv t) 22 (0, 0)) ∧ Below w.heap.size w wr) (fun i _ => 240 - (intOf i).toNat)
        case atStart => exact ⟨0, by omega, rfl, by rw [orK_zero]; exact R12.out, R7.out, R10.out, R11.out, A3.out, A4.out, KB.out⟩
        case round =>
          obtain ⟨k, hk, rfl, r12, r7, r10, r11, a3, a4, kb⟩ := hrel
          have R12 := Lib.hid r12
          have R7 := Lib.hid r7
          have R10 := Lib.hid r10
          have R11 := Lib.hid r11
          have A3 := Lib.hid a3
          have A4 := Lib.hid a4
          have KB := Lib.hid kb
          clear r12 r7 r10 r11 a3 a4 kb
          by_cases hlt : k < 240
          · have hc12 := R12.out.cell k hlt
            have hf12 := R12.out.frozen k
            have hc7 := R7.out.cell k hlt
            rw [orK_getD s t k k hlt, decide_eq_false (Nat.lt_irrefl k), Bool.false_and, Bool.or_false] at hc12
            rw [bitsK_getD hlt] at hc7
            have HS := Lib.hid (orK_succ s t k hlt)
            have HOL := Lib.hid (orK_len s t k)
            cases hmt : mem t k with
            | true =>
              rw [hmt] at hc12
              have HV := Lib.hid (show (mem t k || mem s k) = true by rw [hmt]; rfl)
              clear hc7 hmt
              go_wp2_with fail
              go_roundw
              case rel => exact ⟨k + 1, by omega, by go_num, by rw [HS.out, HV.out]; exact R12.out.set k hlt HOL.out true, R7.out.other _ (by have := N127.out; simp; omega) _, R10.out.other _ (by have := N1210.out; simp; omega) _, R11.out.other _ (by have := N1211.out; simp; omega) _, (heap_setCell_other _ _ _ _ (by have := GE7.out; have := N127.out; simp; omega)).trans A3.out, (heap_setCell_other _ _ _ _ (by have := GN7.out; have := N127.out; simp; omega)).trans A4.out, KB.out.setCell GE12.out _⟩
              case measure => simp [intOf]; omega
            | false =>
              rw [hmt] at hc12
              have HV := Lib.hid (show (mem t k || mem s k) = mem s k by rw [hmt]; rfl)
              clear hmt
              go_wp2_with fail
              go_roundw
              case rel => exact ⟨k + 1, by omega, by go_num, by rw [HS.out, HV.out]; exact R12.out.set k hlt HOL.out (mem s k), R7.out.other _ (by have := N127.out; simp; omega) _, R10.out.other _ (by have := N1210.out; simp; omega) _, R11.out.other _ (by have := N1211.out; simp; omega) _, (heap_setCell_other _ _ _ _ (by have := GE7.out; have := N127.out; simp; omega)).trans A3.out, (heap_setCell_other _ _ _ _ (by have := GN7.out; have := N127.out; simp; omega)).trans A4.out, KB.out.setCell GE12.out _⟩
              case measure => simp [intOf]; omega
          · have hk240 : k = 240 := by omega
            subst hk240
            have RS := Lib.hid KB.out.size
            have EH := Lib.hid (show (hasP s n == hasP s n) = true by simp)
            obtain ⟨W, hW⟩ : ∃ W, W = wr := ⟨_, rfl⟩
            subst hW
            go_wp2_with fail
            refine region_class (fun w' => Below W.heap.size W w') (by kernel_rfl) (by kernel_rfl) (Below.refl _ _).drew ?_
            refine q_val rfl (fun w' hw' => run_load_set 22 (x := .tmp 3) rfl rfl hs Try.underlying22 size22 (row_in hw' A3.out)) ?_
            simp only [Act.put, List.setIfInBounds_toArray, List.set_cons_succ, List.set_cons_zero]
            refine q_move rfl (.tmp 2) rfl ?_
            simp only [Act.put, List.setIfInBounds_toArray, List.set_cons_succ, List.set_cons_zero]
            refine q_call rfl (args := #[.agg (Bv s), .int .i64 n]) (fun w' hw' => run_call2 (u := .agg (Bv s)) (v := .int .i64 n) rfl Try.call11 rfl rfl w') (fun w' hw' => class_has (Nat.le_refl _) hw' n hs) ?_
            simp only [Act.put, List.setIfInBounds_toArray, List.set_cons_succ, List.set_cons_zero]
            refine q_val rfl (fun w' hw' => run_load_set 22 (x := .tmp 3) rfl rfl hs Try.underlying22 size22 (row_in hw' A3.out)) ?_
            simp only [Act.put, List.setIfInBounds_toArray, List.set_cons_succ, List.set_cons_zero]
            refine q_move rfl (.tmp 2) rfl ?_
            simp only [Act.put, List.setIfInBounds_toArray, List.set_cons_succ, List.set_cons_zero]
            refine q_call rfl (args := #[.agg (Bv s), .int .i64 n]) (fun w' hw' => run_call2 (u := .agg (Bv s)) (v := .int .i64 n) rfl Try.call10 rfl rfl w') (fun w' hw' => class_ref (Nat.le_refl _) hw' n hs) ?_
            simp only [Act.put, List.setIfInBounds_toArray, List.set_cons_succ, List.set_cons_zero]
            refine q_val rfl (fun w' hw' => (run_eql_bool_is (x := .tmp 67) (y := .tmp 70) rfl Try.underlying4 rfl rfl true EH.out w')) ?_
            simp only [Act.put, List.setIfInBounds_toArray, List.set_cons_succ, List.set_cons_zero]
            refine q_move rfl (.tmp 71) rfl ?_
            simp only [Act.put, List.setIfInBounds_toArray, List.set_cons_succ, List.set_cons_zero]
            refine q_val rfl (fun w' hw' => run_load_set 22 (x := .tmp 3) rfl rfl hs Try.underlying22 size22 (row_in hw' A3.out)) ?_
            simp only [Act.put, List.setIfInBounds_toArray, List.set_cons_succ, List.set_cons_zero]
            refine q_move rfl (.tmp 2) rfl ?_
            simp only [Act.put, List.setIfInBounds_toArray, List.set_cons_succ, List.set_cons_zero]
            refine q_call rfl (args := #[.agg (Bv s), .int .i64 n]) (fun w' hw' => run_call2 (u := .agg (Bv s)) (v := .int .i64 n) rfl Try.call12 rfl rfl w') (fun w' hw' => class_with (Nat.le_refl _) hw' n hs) ?_
            simp only [Act.put, List.setIfInBounds_toArray, List.set_cons_succ, List.set_cons_zero]
            refine q_move rfl (.tmp 10) rfl ?_
            simp only [Act.put, List.setIfInBounds_toArray, List.set_cons_succ, List.set_cons_zero]
            refine q_call rfl (args := #[.slice (some ⟨g10, 0, none⟩) 240 c10]) (fun w' hw' => run_call1 (u := .slice (some ⟨g10, 0, none⟩) 240 c10) rfl Try.call16 rfl w') (fun w' hw' => class_of (Nat.le_refl _) hw' R10.out.lt R10.out) ?_
            simp only [Act.put, List.setIfInBounds_toArray, List.set_cons_succ, List.set_cons_zero]
            refine q_val rfl (fun w' hw' => run_eql_set (x := .tmp 75) (y := .tmp 77) rfl (hs.with n) (Set30.ofP (bitsK s 240)) rfl rfl true EW.out w') ?_
            simp only [Act.put, List.setIfInBounds_toArray, List.set_cons_succ, List.set_cons_zero]
            refine q_val rfl (fun w' hw' => run_pick (c := .tmp 72) (a := .tmp 78) (b := .const (.bool false)) rfl (t := true) rfl w') ?_
            simp only [Act.put, List.setIfInBounds_toArray, List.set_cons_succ, List.set_cons_zero]
            refine q_move rfl (.tmp 79) rfl ?_
            simp only [Act.put, List.setIfInBounds_toArray, List.set_cons_succ, List.set_cons_zero]
            refine q_val rfl (fun w' hw' => run_load_set 22 (x := .tmp 3) rfl rfl hs Try.underlying22 size22 (row_in hw' A3.out)) ?_
            simp only [Act.put, List.setIfInBounds_toArray, List.set_cons_succ, List.set_cons_zero]
            refine q_move rfl (.tmp 2) rfl ?_
            simp only [Act.put, List.setIfInBounds_toArray, List.set_cons_succ, List.set_cons_zero]
            refine q_call rfl (args := #[.agg (Bv s), .int .i64 n]) (fun w' hw' => run_call2 (u := .agg (Bv s)) (v := .int .i64 n) rfl Try.call14 rfl rfl w') (fun w' hw' => class_without (Nat.le_refl _) hw' n hs) ?_
            simp only [Act.put, List.setIfInBounds_toArray, List.set_cons_succ, List.set_cons_zero]
            refine q_move rfl (.tmp 11) rfl ?_
            simp only [Act.put, List.setIfInBounds_toArray, List.set_cons_succ, List.set_cons_zero]
            refine q_call rfl (args := #[.slice (some ⟨g11, 0, none⟩) 240 c11]) (fun w' hw' => run_call1 (u := .slice (some ⟨g11, 0, none⟩) 240 c11) rfl Try.call16 rfl w') (fun w' hw' => class_of (Nat.le_refl _) hw' R11.out.lt R11.out) ?_
            simp only [Act.put, List.setIfInBounds_toArray, List.set_cons_succ, List.set_cons_zero]
            refine q_val rfl (fun w' hw' => run_eql_set (x := .tmp 83) (y := .tmp 85) rfl (hs.without n) (Set30.ofP (bitsK s 240)) rfl rfl true EO.out w') ?_
            simp only [Act.put, List.setIfInBounds_toArray, List.set_cons_succ, List.set_cons_zero]
            refine q_val rfl (fun w' hw' => run_pick (c := .tmp 80) (a := .tmp 86) (b := .const (.bool false)) rfl (t := true) rfl w') ?_
            simp only [Act.put, List.setIfInBounds_toArray, List.set_cons_succ, List.set_cons_zero]
            refine q_move rfl (.tmp 87) rfl ?_
            simp only [Act.put, List.setIfInBounds_toArray, List.set_cons_succ, List.set_cons_zero]
            refine q_val rfl (fun w' hw' => run_load_set 22 (x := .tmp 3) rfl rfl hs Try.underlying22 size22 (row_in hw' A3.out)) ?_
            simp only [Act.put, List.setIfInBounds_toArray, List.set_cons_succ, List.set_cons_zero]
            refine q_call rfl (args := #[.agg (Bv s)]) (fun w' hw' => run_call1 (u := .agg (Bv s)) rfl Try.call13 rfl w') (fun w' hw' => class_count (Nat.le_refl _) hw' hs) ?_
            simp only [Act.put, List.setIfInBounds_toArray, List.set_cons_succ, List.set_cons_zero]
            refine q_move rfl (.tmp 8) rfl ?_
            simp only [Act.put, List.setIfInBounds_toArray, List.set_cons_succ, List.set_cons_zero]
            refine q_val rfl (fun w' hw' => (run_eql_int_is (x := .tmp 90) (y := .tmp 91) rfl rfl rfl true EC.out w')) ?_
            simp only [Act.put, List.setIfInBounds_toArray, List.set_cons_succ, List.set_cons_zero]
            refine q_val rfl (fun w' hw' => run_pick (c := .tmp 88) (a := .tmp 92) (b := .const (.bool false)) rfl (t := true) rfl w') ?_
            simp only [Act.put, List.setIfInBounds_toArray, List.set_cons_succ, List.set_cons_zero]
            refine q_move rfl (.tmp 93) rfl ?_
            simp only [Act.put, List.setIfInBounds_toArray, List.set_cons_succ, List.set_cons_zero]
            refine q_val rfl (fun w' hw' => run_load_set 22 (x := .tmp 3) rfl rfl hs Try.underlying22 size22 (row_in hw' A3.out)) ?_
            simp only [Act.put, List.setIfInBounds_toArray, List.set_cons_succ, List.set_cons_zero]
            refine q_val rfl (fun w' hw' => run_load_set 22 (x := .tmp 4) rfl rfl ht Try.underlying22 size22 (row_in hw' A4.out)) ?_
            simp only [Act.put, List.setIfInBounds_toArray, List.set_cons_succ, List.set_cons_zero]
            refine q_call rfl (args := #[.agg (Bv s), .agg (Bv t)]) (fun w' hw' => run_call2 (u := .agg (Bv s)) (v := .agg (Bv t)) rfl Try.call17 rfl rfl w') (fun w' hw' => class_both (Nat.le_refl _) hw' hs ht) ?_
            simp only [Act.put, List.setIfInBounds_toArray, List.set_cons_succ, List.set_cons_zero]
            refine q_move rfl (.tmp 12) rfl ?_
            simp only [Act.put, List.setIfInBounds_toArray, List.set_cons_succ, List.set_cons_zero]
            refine q_call rfl (args := #[.slice (some ⟨g12, 0, none⟩) 240 c12]) (fun w' hw' => run_call1 (u := .slice (some ⟨g12, 0, none⟩) 240 c12) rfl Try.call16 rfl w') (fun w' hw' => class_of (Nat.le_refl _) hw' R12.out.lt R12.out) ?_
            simp only [Act.put, List.setIfInBounds_toArray, List.set_cons_succ, List.set_cons_zero]
            refine q_val rfl (fun w' hw' => run_eql_set (x := .tmp 97) (y := .tmp 99) rfl (hs.both ht) (Set30.ofP (orK s t 240)) rfl rfl true EU.out w') ?_
            simp only [Act.put, List.setIfInBounds_toArray, List.set_cons_succ, List.set_cons_zero]
            refine q_val rfl (fun w' hw' => run_pick (c := .tmp 94) (a := .tmp 100) (b := .const (.bool false)) rfl (t := true) rfl w') ?_
            simp only [Act.put, List.setIfInBounds_toArray, List.set_cons_succ, List.set_cons_zero]
            refine q_assign rfl (.tmp 101) rfl ?_
            simp only [Act.put, List.setIfInBounds_toArray, List.set_cons_succ, List.set_cons_zero]
            refine wpQuiet_nil ?_
            intro w' hw'
            go_wp2
            go_ret
            exact ⟨rfl, KB.out.trans (hw'.mono RS.out)⟩

theorem walk_bitsPlays (s : List Nat) (hs : Set30 s) (t : List Nat) (ht : Set30 t) (n : Int) (_hn : (Lit.int .i64 n).wf = true) (w : World) :
    Calls Try.prog 6 #[.agg (Bv s), .agg (Bv t), .int .i64 n] w fun e w' => e = .returned (.bool true) ∧ Below w.heap.size w w' := by
  by_cases hin : 0 ≤ n ∧ n < 240
  · exact plays_in s hs t ht n w hin.1 hin.2
  · exact plays_out s hs t ht n w (by omega)

set_option maxRecDepth 100000 in
theorem bitsPlays_lifted (os : Os) (started : os.Started) (H : Type) (enc : TypeId × Value → H) :
    ReturnsInHanded {} Try.checked os 6 .any (Rows.bitsPlaysSpec.pre6 enc Try.prog Try.f6 Rows.bitsPlaysRow.domain false) (Rows.bitsPlaysSpec.post enc Try.prog Try.f6 false true false false) := by
  refine returnsInHanded_of_change (C := Try.checked) own started (by kernel_rfl) Try.func6
    (ChangeSpec.witness6 (enc := enc) (C := Try.checked) false ⟨#[], #[.agg #[.int .u8 0, .int .u8 0, .int .u8 0, .int .u8 0, .int .u8 0, .int .u8 0, .int .u8 0, .int .u8 0, .int .u8 0, .int .u8 0, .int .u8 0, .int .u8 0, .int .u8 0, .int .u8 0, .int .u8 0, .int .u8 0, .int .u8 0, .int .u8 0, .int .u8 0, .int .u8 0, .int .u8 0, .int .u8 0, .int .u8 0, .int .u8 0, .int .u8 0, .int .u8 0, .int .u8 0, .int .u8 0, .int .u8 0, .int .u8 0], .agg #[.int .u8 0, .int .u8 0, .int .u8 0, .int .u8 0, .int .u8 0, .int .u8 0, .int .u8 0, .int .u8 0, .int .u8 0, .int .u8 0, .int .u8 0, .int .u8 0, .int .u8 0, .int .u8 0, .int .u8 0, .int .u8 0, .int .u8 0, .int .u8 0, .int .u8 0, .int .u8 0, .int .u8 0, .int .u8 0, .int .u8 0, .int .u8 0, .int .u8 0, .int .u8 0, .int .u8 0, .int .u8 0, .int .u8 0, .int .u8 0], .int .i64 0], []⟩ 8 (by kernel_rfl) (by kernel_rfl) (by kernel_rfl) (by kernel_rfl)) ?_
  intro W base args ds gs before hval0 hW hcnd hsz
  have hval : ∀ (j : Nat) t v, Try.f6.params[j]? = some t → args[j]? = some v → Value.okWide Try.prog W .any base t v := hval0
  have hW' := hW
  obtain ⟨p, q, hA0, hV, rfl, hfz, hnd⟩ := hW
  have hA : DataW.TrodAll enc Try.prog W 0 (fun _ => true) true Try.f6.params.toList args.toList ds p := hA0
  rw [Try.params6] at hA hval
  obtain ⟨v0, vs0, d0, ds0, p0, q0, hargs, rfl, rfl, h0, r0⟩ := trodAll_cons hA
  obtain ⟨v1, vs1, d1, ds1, p1, q1, rfl, rfl, rfl, h1, r1⟩ := trodAll_cons r0
  obtain ⟨v2, vs2, d2, ds2, p2, q2, rfl, rfl, rfl, h2, r2⟩ := trodAll_cons r1
  obtain ⟨rfl, rfl, rfl⟩ := trodAll_nil r2
  obtain rfl : args = #[v0, v1, v2] := by cases args; simp_all
  obtain ⟨rfl, rfl⟩ := trodVars_none hV
  have k0 := h0
  have lt0 : ∀ x ∈ p0, x.block < W.heap.size := by obtain ⟨m, hm⟩ := k0; exact DataW.trod_lt m _ _ _ hm
  have k1 := h1
  have lt1 : ∀ x ∈ p1, x.block < W.heap.size := by obtain ⟨m, hm⟩ := k1; exact DataW.trod_lt m _ _ _ hm
  have k2 := h2
  have lt2 : ∀ x ∈ p2, x.block < W.heap.size := by obtain ⟨m, hm⟩ := k2; exact DataW.trod_lt m _ _ _ hm
  obtain ⟨s0, rfl, hs0⟩ := open_set (hval 0 22 v0 rfl rfl) h0
  obtain ⟨s1, rfl, hs1⟩ := open_set (hval 1 22 v1 rfl rfl) h1
  obtain ⟨a2, rfl, rfl, rfl, w2⟩ := open_int Try.underlying3 (hval 2 3 v2 rfl rfl) h2
  clear hA0 hval0
  refine (walk_bitsPlays s0 hs0 s1 hs1 a2 w2 W).mono fun e W' ⟨he, bel⟩ => ?_
  subst he
  exact ⟨_, rfl, _, _, _, [], _, [], hW', trodAll_mk1 (shut_bool Try.underlying4 _), (trodAll_cons_mk (Below.trod laidOut (by kernel_rfl) (of_decide_eq_true (by kernel_rfl)) k0 bel lt0) (trodAll_cons_mk (Below.trod laidOut (by kernel_rfl) (of_decide_eq_true (by kernel_rfl)) k1 bel lt1) (trodAll_cons_mk (Below.trod laidOut (by kernel_rfl) (of_decide_eq_true (by kernel_rfl)) k2 bel lt2) trodAll_mk0))), rfl, bel.frame _, fun h => by cases h⟩

theorem bitsPlays_holds : Rows.BitsPlaysSaid :=
  OpenClaim.holds_of_wide 6 Try.f6 rfl rfl rfl rfl rfl rfl rfl ⟨rfl, rfl, rfl, rfl, rfl⟩ rfl rfl rfl rfl rfl (by kernel_rfl) Try.func6 (by kernel_rfl)
    (of_decide_eq_true (by kernel_rfl)) (by unfold Func.isWrapper; first | (rw [if_pos (by decide +kernel)]; kernel_rfl) | (rw [if_neg (by decide +kernel)]; exact ⟨rfl, rfl⟩))
    (fun os started H enc _ => bitsPlays_lifted os started H enc)

#print axioms bitsPlays_holds

end Go.Proofs.Ytkeoghekeapgaaa
