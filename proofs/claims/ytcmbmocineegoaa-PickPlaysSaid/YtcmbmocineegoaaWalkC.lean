/-
  What Push does: the heap has one item more, and stands in its order.
  Conditions: the heap stands in its order, its row is its own.
-/
import Derived.Test.YtcmbmocineegoaaWalkB
import Derived.OwnWalk
import Derived.Deep.DrawnRows
import Derived.Deep.RegionLaw
namespace Go.Proofs.Ytcmbmocineegoaa
open Go.ChangeShapes Go.WideShapes Go.RowKit
attribute [local go_sem ↓] Go.wp_at_zero Go.wp_at_succ

/-- The cells of a row of pairs. -/
def dcells : List D → List Value
  | [] => []
  | d :: l => .int .i64 d.1 :: .int .i64 d.2 :: dcells l
theorem dcells_length (l : List D) : (dcells l).length = l.length * 2 := by
  induction l with
  | nil => rfl
  | cons d l ih => simp only [dcells, List.length_cons, ih]; omega
theorem dcells_append (l m : List D) : dcells (l ++ m) = dcells l ++ dcells m := by
  induction l with
  | nil => rfl
  | cons d l ih => simp only [dcells, List.cons_append, ih]
theorem dcells_at (l : List D) : ∀ j, j < l.length → (dcells l)[j * 2]? = some (.int .i64 (at_ l j).1) ∧ (dcells l)[j * 2 + 1]? = some (.int .i64 (at_ l j).2) := by
  induction l with
  | nil => intro j hj; simp at hj
  | cons d l ih =>
    intro j hj
    match j with
    | 0 => exact ⟨rfl, rfl⟩
    | j + 1 =>
      have h := ih j (by simpa using hj)
      have e : (j + 1) * 2 = j * 2 + 1 + 1 := by omega
      rw [e]
      simp only [dcells, List.getElem?_cons_succ]
      exact h
theorem dcells_one (l : List D) : ∀ u ∈ dcells l, u.oneCell' = true := by
  induction l with
  | nil => intro u hu; simp [dcells] at hu
  | cons d l ih =>
    intro u hu
    simp only [dcells, List.mem_cons] at hu
    rcases hu with rfl | rfl | hu
    · rfl
    · rfl
    · exact ih u hu
theorem row_of_own {w : World} {B n : Nat} {v : Value} {l : List D} (h : w.ownsRow B 30 2 v n (dcells l)) (hn : n = l.length) (h0 : 0 < n) : ∃ g cap, v = .slice (some ⟨g, 0, none⟩) l.length cap ∧ B ≤ g ∧ HRow w g cap l := by
  subst hn
  obtain ⟨_, h2⟩ := h
  rcases h2 with ⟨_, h2⟩ | ⟨g, cap, cur, hv, hg, hh, hc, hm, hs, hcs⟩
  · omega
  · refine ⟨g, cap, hv, hg, ⟨cur, hh, hs, fun j hj => ?_⟩, hc, hm⟩
    obtain ⟨a, b⟩ := dcells_at l j hj
    rw [← hcs, List.getElem?_take, if_pos (by omega), Array.getElem?_toList] at a
    rw [← hcs, List.getElem?_take, if_pos (by omega), Array.getElem?_toList] at b
    exact ⟨a, b⟩
theorem own_of_row {w : World} {B g cap : Nat} {l : List D} (h : HRow w g cap l) (hB : B ≤ g) : w.ownsRow B 30 2 (.slice (some ⟨g, 0, none⟩) l.length cap) l.length (dcells l) := by
  obtain ⟨⟨cur, hg, hs, hc⟩, hcap, hmax⟩ := h
  refine ⟨dcells_length l, .inr ⟨g, cap, cur, rfl, hB, hg, hcap, hmax, hs, ?_⟩⟩
  apply List.ext_getElem?
  intro i
  rw [List.getElem?_take, Array.getElem?_toList]
  by_cases hi : i < l.length * 2
  · rw [if_pos hi]
    have hj : i / 2 < l.length := by omega
    obtain ⟨a, b⟩ := dcells_at l (i / 2) hj
    obtain ⟨c, d⟩ := hc (i / 2) hj
    rcases Nat.mod_two_eq_zero_or_one i with h | h
    · have e : i = i / 2 * 2 := by omega
      rw [e, a, c]
    · have e : i = i / 2 * 2 + 1 := by omega
      rw [e, b, d]
  · rw [if_neg hi, List.getElem?_eq_none (by rw [dcells_length]; omega)]

set_option maxRecDepth 100000 in
set_option maxHeartbeats 4000000 in
theorem push_any (w : World) (h B : Nat) (v : Value) (l : List D) (x : D) (HO : HObj w h v) (hown : w.ownsRow B 30 2 v l.length (dcells l)) (hB : B ≤ w.heap.size) (HA : HAll l) (hn : l.length ≤ 1000000) :
    Calls Try.prog 15 #[.pointer (some ⟨h, 0, none⟩), dv x] w fun e w' => ∃ (g cap : Nat) (l' : List D), e = .returned (.tuple #[]) ∧ HObj w' h (.slice (some ⟨g, 0, none⟩) l'.length cap) ∧ HRow w' g cap l' ∧
      l'.length = l.length + 1 ∧ l'.Perm (x :: l) ∧ HAll l' ∧ B ≤ g ∧ (v.ownBlock = some g ∨ w.heap.size ≤ g) ∧ Kept (fun k => k = h ∨ v.ownBlock = some k) w w' := by
  obtain ⟨i0, hi0, hz0, hz1, hz2⟩ := info_parts info30
  have hne : v.ownBlock ≠ some h := by
    rcases hown.2 with ⟨rfl, _⟩ | ⟨g', cap, cur, rfl, _, hh, _⟩
    · simp [Value.ownBlock]
    · intro he
      have e : g' = h := by simpa [Value.ownBlock] using he
      subst e
      unfold HObj at HO
      rw [HO] at hh
      injection hh with hh
      injection hh with _ ht _
      exact absurd ht (by decide)
  have hnb : v.ownBlock ≠ some w.heap.size := by
    rcases hown.2 with ⟨rfl, _⟩ | ⟨g', cap, cur, rfl, _, hh, _⟩
    · simp [Value.ownBlock]
    · intro he
      have e : g' = w.heap.size := by simpa [Value.ownBlock] using he
      subst e
      rw [Array.getElem?_eq_none (Nat.le_refl _)] at hh
      cases hh
  have hC := hb_cell HO
  have hF := hb_free HO
  have hlt := hb_lt HO
  have hC2 : ∀ o o2, ((w.alloc o).alloc o2).cell? ⟨h, 0, none⟩ = some v := fun o o2 => (World.cell?_alloc_lt _ o2 ⟨h, 0, none⟩ (by simp; omega)).trans ((World.cell?_alloc_lt w o ⟨h, 0, none⟩ hlt).trans hC)
  have hF1 : ∀ o, (w.alloc o).frozen? ⟨h, 0, none⟩ = false := fun o => (World.frozen?_alloc_past o h 0 hlt).trans hF
  have hF2 : ∀ o o2, ((w.alloc o).alloc o2).frozen? ⟨h, 0, none⟩ = false := fun o o2 => (World.frozen?_alloc_past o2 h 0 (by simp; omega)).trans (hF1 o)
  have HO' := Lib.hid HO
  have HA' := Lib.hid HA
  have HBB := Lib.hid hB
  have hown1 := (hown.alloc (.cells #[.int .i64 x.1, .int .i64 x.2] 30)).drew
  clear HO HA
  unfold dv
  go_enter Try.func15, Try.ntmps15
  go_wp2_with fail
  go_region_law
    ((refine step_append_lies _ (by rfl) _ _ _ (by rfl) B 30 i0 _ 2 16 Try.underlying39 hi0 hz0 hz1 hz2 rfl (by omega) v l.length (dcells l) (by rfl) ((hown1.alloc _).drew)
        ⟨w.heap.size + 1, 0, none⟩ 1 1 [.int .i64 x.1, .int .i64 x.2] (by rfl) (by rfl) (World.news_of_block (cs := #[.int .i64 x.1, .int .i64 x.2]) (t := 30) (fr := (0, 0)) (heap_alloc2_new w _ _)) (by simp [Value.oneCell'])
        (by omega) (by unfold maxLen; omega) (by omega) (by simp; omega) (w.heap.size + 2) (by simp) ?_; intro gg cap w1 hown2 hgrow hat hltg
      have hc1 : w1.cell? ⟨h, 0, none⟩ = some v := (hgrow.cell_far ⟨h, 0, none⟩ (by simp; omega) (Ne.symm hne)).trans (hC2 _ _)
      have hf1 : w1.frozen? ⟨h, 0, none⟩ = false := (hgrow.frozen_far ⟨h, 0, none⟩ (by simp; omega) (Ne.symm hne)).trans (hF2 _ _)))
  all_goals (
    obtain ⟨g', cap', hv', hBg, hrow⟩ := row_of_own (l := l ++ [x]) (by rw [dcells_append]; exact hown2) (by simp) (by omega)
    have hlen : (l ++ [x]).length = l.length + 1 := by simp
    rw [hlen] at hv'
    have hgg : gg = g' := by simpa using (Value.slice.inj hv').1
    have hcc : cap = cap' := (Value.slice.inj hv').2.2
    subst hgg
    subst hcc
    have hgh : h ≠ gg := by
      rcases hat with e | e
      · intro e2; subst e2; exact hne e
      · omega
    obtain ⟨w2, hw2⟩ : ∃ w2, w2 = w1.setCell ⟨h, 0, none⟩ (.slice (some ⟨gg, 0, none⟩) (l.length + 1) cap) := ⟨_, rfl⟩
    have hob1 : w1.heap[h]? = some (.cells #[v] 60 (0, 0)) := by
      rw [hgrow.block h (by simp; omega) (Ne.symm hne)]
      exact (Below.heap_alloc _ _ h (by simp; omega)).trans ((Below.heap_alloc w _ h hlt).trans HO'.out)
    have O2 := Lib.hid (show HObj w2 h (.slice (some ⟨gg, 0, none⟩) (l ++ [x]).length cap) by
      rw [hw2, hlen]; unfold HObj; simp [World.setCell, Array.getElem?_modify, hob1])
    have R2 := Lib.hid (show HRow w2 gg cap (l ++ [x]) from hrow.keep (by rw [hw2]; exact Below.heap_setCell _ _ _ _ (Ne.symm hgh)))
    have K2 := Lib.hid (show Kept (fun k => k = h ∨ v.ownBlock = some k) w w2 from ⟨by rw [hw2]; exact hgrow.os, by rw [hw2]; exact hgrow.tape, by rw [hw2]; exact hgrow.output, by rw [hw2]; have := hgrow.size; simp at this ⊢; omega, fun k hk hS => by
      rw [hw2, Below.heap_setCell _ _ _ _ (fun e => hS (.inl e)), hgrow.block k (by simp; omega) (fun e => hS (.inr e.symm))]
      exact (Below.heap_alloc _ _ k (by simp; omega)).trans (Below.heap_alloc w _ k hk)⟩)
    have HX := Lib.hid (show v.ownBlock = some gg ∨ w.heap.size ≤ gg from hat.elim Or.inl (fun e => Or.inr (by omega)))
    have HG := Lib.hid hBg
    clear hv' hrow hown2 hgrow hat hltg hob1 hgh hlen
    go_wp2_with fail
    rw [← hw2]
    clear hw2 hc1 hf1
    go_loopw [4] (fun i wr => ∃ (k : Nat) (l' : List D), i = .int .i64 k ∧ k < l.length + 1 ∧ l'.length = l.length + 1 ∧ HUp l' k ∧ l'.Perm (l ++ [x]) ∧ HObj wr h (.slice (some ⟨gg, 0, none⟩) l'.length cap) ∧ HRow wr gg cap l' ∧ Kept (fun k => k = h ∨ v.ownBlock = some k) w wr) (fun i _ => (intOf i).toNat)
    case atStart => exact ⟨l.length, l ++ [x], rfl, by omega, by simp, push_start HA'.out x, List.Perm.refl _, O2.out, R2.out, K2.out⟩
    case round =>
      obtain ⟨k, l', rfl, hk, hl', hup, hperm, hO, hR, hK⟩ := hrel
      have UP := Lib.hid hup
      have PE := Lib.hid hperm
      have LL := Lib.hid hl'
      have O := Lib.hid hO
      have R := Lib.hid hR
      have KK := Lib.hid hK
      clear hup hperm hl' hO hR hK
      by_cases h0 : k = 0
      · subst h0
        go_wp2
        go_end0
        exact ⟨gg, cap, l', rfl, O.out, R.out, LL.out, PE.out.trans List.perm_append_comm, up_end UP.out (.inl rfl), HG.out, HX.out, KK.out⟩
      · obtain ⟨p, hp⟩ : ∃ p, p = (k - 1) / 2 := ⟨_, rfl⟩
        have HP := Lib.hid hp
        have HPI := Lib.hid (show ((k : Int) - 1) / 2 = (p : Int) by omega)
        have hk0 : 0 < k := by omega
        have hkl : k < l'.length := by rw [LL.out]; exact hk
        have hpl : p < l'.length := by rw [LL.out]; omega
        have HKL := Lib.hid hkl
        have HPL := Lib.hid hpl
        have HNE := Lib.hid (show k ≠ p by omega)
        have hlc := hless_any wr h gg cap l' O.out R.out k p hkl hpl
        cases hb : less (at_ l' k) (at_ l' p) with
        | false =>
          have HB := Lib.hid hb
          rw [hb] at hlc
          have HLC := Lib.hid hlc
          clear hp hkl hpl hlc hb
          go_wp2_with fail
          rw [HPI.out]
          refine HLC.out.mono ?_
          rintro e w3 ⟨rfl, hb3⟩
          have K3 := Lib.hid (KK.out.trans (Kept.of_below hb3 (fun _ => False)) (U := (fun k => k = h ∨ v.ownBlock = some k)) (fun _ _ hx => hx) (fun _ _ hx => hx.elim))
          have O3 := Lib.hid (show HObj w3 h _ from (hb3.block h (hb_lt O.out)).trans O.out)
          have R3 := Lib.hid (R.out.keep (hb3.block gg R.out.lt))
          clear hb3
          go_wp2
          go_end0
          exact ⟨gg, cap, l', rfl, O3.out, R3.out, LL.out, PE.out.trans List.perm_append_comm, up_end UP.out (.inr (by rw [← HP.out]; exact HB.out)), HG.out, HX.out, K3.out⟩
        | true =>
          have HB := Lib.hid hb
          rw [hb] at hlc
          have HLC := Lib.hid hlc
          clear hp hkl hpl hlc hb
          go_wp2_with fail
          rw [HPI.out]
          refine HLC.out.mono ?_
          rintro e w3 ⟨rfl, hb3⟩
          have K3 := Lib.hid (KK.out.trans (Kept.of_below hb3 (fun _ => False)) (U := (fun k => k = h ∨ v.ownBlock = some k)) (fun _ _ hx => hx) (fun _ _ hx => hx.elim))
          have O3 := Lib.hid (show HObj w3 h _ from (hb3.block h (hb_lt O.out)).trans O.out)
          have R3 := Lib.hid (R.out.keep (hb3.block gg R.out.lt))
          clear hb3
          go_wp2_with fail
          rw [HPI.out]
          refine (swap_any w3 h gg cap l' O3.out R3.out k p HKL.out HPL.out HNE.out).mono ?_
          rintro e w4 ⟨rfl, hr4, hk4, hs4⟩
          have K4 := Lib.hid (K3.out.trans hk4 (U := (fun k => k = h ∨ v.ownBlock = some k)) (fun _ _ hx => hx) (fun y hy e => HX.out.elim (fun e2 => Or.inr (by rw [e2, e])) (fun e2 => by omega)))
          have O4 := Lib.hid (show HObj w4 h (.slice (some ⟨gg, 0, none⟩) (swapL l' k p).length cap) by
            rw [swap_length]
            exact (hk4.block h (hb_lt O3.out) (hb_ne O3.out R3.out)).trans O3.out)
          have R4 := Lib.hid hr4
          clear hr4 hk4 hs4
          go_wp2_with fail
          go_roundw
          case rel => exact ⟨p, swapL l' k p, by rw [HPI.out], by rw [HP.out]; omega, by rw [swap_length]; exact LL.out, up_step UP.out hk0 HKL.out HP.out HB.out, (swap_perm HKL.out HPL.out).trans PE.out, O4.out, R4.out, K4.out⟩
          case measure => rw [HPI.out]; have := HP.out; simp [intOf]; omega)

end Go.Proofs.Ytcmbmocineegoaa
