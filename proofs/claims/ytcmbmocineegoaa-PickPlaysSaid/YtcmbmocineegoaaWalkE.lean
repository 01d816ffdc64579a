/-
  What Pop does: the least one goes, the others stay.
  Conditions: the heap stands in its order.
-/
import Derived.Test.YtcmbmocineegoaaWalkD
import Derived.Laws.ResultCell
namespace Go.Proofs.Ytcmbmocineegoaa
open Go.ChangeShapes Go.WideShapes Go.RowKit

theorem HRow.take {w : World} {g cap : Nat} {l : List D} (h : HRow w g cap l) (m : Nat) : HRow w g cap (l.take m) := by
  obtain ⟨⟨cur, hg, hs, hc⟩, hcap, hmax⟩ := h
  refine ⟨⟨cur, hg, hs, fun j hj => ?_⟩, by rw [List.length_take]; omega, hmax⟩
  rw [List.length_take] at hj
  have e : at_ (l.take m) j = at_ l j := by
    unfold at_; rw [List.getD_eq_getElem?_getD, List.getD_eq_getElem?_getD, List.getElem?_take, if_pos (by omega)]
  rw [e]
  exact hc j (by omega)
theorem HRow.cast {w : World} {g cap : Nat} {l m : List D} (h : HRow w g cap l) (e : l = m) : HRow w g cap m := e ▸ h
/-- Results: a pair in a cell of its own, and a truth. -/
theorem results_pop {fn : Func} {p u : Tmp} (hf : fn.results = #[.cell p 30, .tmp u]) (tmps : Array Value) (w : World) (g : Nat) (d : D) (b : Bool) (hp : tmps[p]? = some (.pointer (some ⟨g, 0, none⟩))) (hu : tmps[u]? = some (.bool b))
    (h1 : w.cell? ⟨g, 0, none⟩ = some (.int .i64 d.1)) (h2 : w.cell? ⟨g, 1, none⟩ = some (.int .i64 d.2)) : (results fn tmps).run Try.prog w = .ok (.tuple #[dv d, .bool b]) w := by
  have a0 : (⟨g, 0, none⟩ : Addr).add 0 = ⟨g, 0, none⟩ := by unfold Addr.add; simp
  have a1 : (⟨g, 0, none⟩ : Addr).add 1 = ⟨g, 1, none⟩ := by unfold Addr.add; simp
  have e3 : ∀ acc, (loadCellsFrom ⟨g, 0, none⟩ 0 2 acc).run Try.prog w = .ok ((acc.push (.int .i64 d.1)).push (.int .i64 d.2)) w := fun acc => by
    simp [loadCellsFrom, Sem.run_bind, load, Sem.run, a0, a1, h1, h2]
  have hl : (loadVar 30 ⟨g, 0, none⟩).run Try.prog w = .ok (dv d) w := by
    simp [loadVar, isAgg, Sem.run_bind, run_underlying Try.underlying30, run_size size30, loadCells, e3, dv]
  rw [results_cell_tmp hf tmps Try.prog w]
  have e4 : tmps.getD p undef = .pointer (some ⟨g, 0, none⟩) := by simp [hp]
  have e5 : tmps.getD u undef = .bool b := by simp [hu]
  rw [e4, e5]
  simp [asAddr, hl, Result.andThen]

set_option maxRecDepth 100000 in
set_option maxHeartbeats 1000000 in
theorem pop_none (w : World) (p : Option Addr) (a : Option Addr) (cap : Nat) (hp : p = none ∨ ∃ h, p = some ⟨h, 0, none⟩ ∧ HObj w h (.slice a 0 cap)) :
    Calls Try.prog 16 #[.pointer p] w fun e w' => e = .returned (.tuple #[dv (0, 0), .bool false]) ∧ Below w.heap.size w w' := by
  have HL : Calls Try.prog 19 #[.pointer p] (w.alloc (.cells #[.int .i64 0, .int .i64 0] 30)) fun e w' => e = .returned (.int .i64 0) ∧ w' = w.alloc (.cells #[.int .i64 0, .int .i64 0] 30) := by
    rcases hp with rfl | ⟨h, rfl, hO⟩
    · exact len_none _
    · exact len_any _ h a 0 cap ((Below.heap_alloc w _ h (hb_lt hO)).trans hO)
  have HL' := Lib.hid HL
  clear hp HL
  go_enter Try.func16, Try.ntmps16
  go_wp2_with fail
  refine HL'.out.mono ?_
  rintro e w1 ⟨rfl, rfl⟩
  go_wp2
  refine bodyPost_ret (results_pop rfl _ _ w.heap.size (0, 0) false rfl rfl (by simp) (by simp)) rfl ?_
  refine ⟨rfl, ?_⟩
  exact (Below.refl _ _).alloc (Nat.le_refl _) _

set_option maxRecDepth 100000 in
set_option maxHeartbeats 1000000 in
theorem pop_any (w : World) (h g cap m : Nat) (l : List D) (hm : l.length = m + 1) (HO : HObj w h (.slice (some ⟨g, 0, none⟩) (m + 1) cap)) (HR : HRow w g cap l) (HA : HAll l) (hn : l.length ≤ 1000000) :
    Calls Try.prog 16 #[.pointer (some ⟨h, 0, none⟩)] w fun e w' => ∃ l' : List D, e = .returned (.tuple #[dv (at_ l 0), .bool true]) ∧ HObj w' h (.slice (some ⟨g, 0, none⟩) l'.length cap) ∧ HRow w' g cap l' ∧ l.Perm (at_ l 0 :: l') ∧ HAll l' ∧ Kept (fun k => k = h ∨ k = g) w w' := by
  have hlth := hb_lt HO
  have hltg := HR.lt
  have O1 := Lib.hid (show HObj (w.alloc (.cells #[.int .i64 0, .int .i64 0] 30)) h (.slice (some ⟨g, 0, none⟩) (m + 1) cap) from (Below.heap_alloc w _ h hlth).trans HO)
  have hC := hb_cell HO
  have c1 := HR.c1 (j := 0) (by omega)
  have c2 := HR.c2 (j := 0) (by omega)
  have d1 := HR.c1 (j := m) (by omega)
  have d2 := HR.c2 (j := m) (by omega)
  have f1 := HR.free 0
  have f2 := HR.free 1
  have fh := hb_free HO
  rw [Nat.zero_mul] at c1 c2
  rw [Nat.zero_add] at c2
  have hmc : (m : Int) + 1 ≤ (cap : Int) := by have := HR.cap_; omega
  have hm63 : (m : Int) ≤ 1000000 := by omega
  have hgh : ¬ h = g := hb_ne HO HR
  have hgh2 : ¬ g = h := fun e => hgh e.symm
  have HO' := Lib.hid HO
  have HR' := Lib.hid HR
  have HA' := Lib.hid HA
  clear HO HR HA
  go_enter Try.func16, Try.ntmps16
  go_wp2_with fail
  refine (len_any _ h _ _ _ O1.out).mono ?_
  rintro e w1 ⟨rfl, rfl⟩
  go_wp2_with fail
  go_region
  all_goals go_wp2_with fail
  obtain ⟨W5, hW⟩ : ∃ W, W = (((((w.setCell ⟨g, 0, none⟩ (.int .i64 (at_ l m).1)).setCell ⟨g, 1, none⟩ (.int .i64 (at_ l m).2)).setCell ⟨h, 0, none⟩ (.slice (some ⟨g, 0, none⟩) m cap)).alloc (.cells #[.int .i64 0, .int .i64 0] 30)).alloc (.cells #[.int .i64 (at_ l 0).1, .int .i64 (at_ l 0).2] 30)).drew := ⟨_, rfl⟩
  obtain ⟨W3, hW3⟩ : ∃ W, W = (putD w g 0 (at_ l m)).setCell ⟨h, 0, none⟩ (.slice (some ⟨g, 0, none⟩) m cap) := ⟨_, rfl⟩
  have hW5 : W5 = ((W3.alloc (.cells #[.int .i64 0, .int .i64 0] 30)).alloc (.cells #[.int .i64 (at_ l 0).1, .int .i64 (at_ l 0).2] 30)).drew := by rw [hW, hW3]; rfl
  rw [← hW]
  clear hW
  have hs3 : W3.heap.size = w.heap.size := by rw [hW3]; simp [putD_size]
  have hs5 : W5.heap.size = w.heap.size + 2 := by rw [hW5]; simp [hs3]
  have hold : ∀ k, k < w.heap.size → W5.heap[k]? = W3.heap[k]? := fun k hk => by
    rw [hW5]
    exact (Below.heap_alloc _ _ k (by simp; omega)).trans (Below.heap_alloc _ _ k (by omega))
  have hpl : (popL l).length = m := by rw [pop_length, hm]; rfl
  have O5 := Lib.hid (show HObj W5 h (.slice (some ⟨g, 0, none⟩) (popL l).length cap) by
    have h0 : (putD w g 0 (at_ l m)).heap[h]? = some (.cells #[.slice (some ⟨g, 0, none⟩) (m + 1) cap] 60 (0, 0)) := (putD_other w g 0 _ h hgh).trans HO'.out
    unfold HObj
    rw [hold h hlth, hpl, hW3]
    simp [World.setCell, Array.getElem?_modify, h0])
  have R5 := Lib.hid (show HRow W5 g cap (popL l) from
    (((HR'.out.put (i := 0) (by omega) (at_ l m)).keep (w' := W5) (by rw [hold g hltg, hW3]; exact Below.heap_setCell _ _ _ _ hgh2)).take m).cast (by unfold popL; rw [hm]; rfl))
  have K5 := Lib.hid (show Kept (fun k => k = h ∨ k = g) w W5 from ⟨by rw [hW5, hW3]; rfl, by rw [hW5, hW3]; rfl, by rw [hW5, hW3]; rfl, by omega, fun k hk hS => by
    rw [hold k hk, hW3, Below.heap_setCell _ _ _ _ (fun e => hS (.inl e))]
    exact putD_other w g 0 _ k (fun e => hS (.inr e))⟩)
  have T4 := Lib.hid (show W5.heap[w.heap.size + 1]? = some (.cells #[.int .i64 (at_ l 0).1, .int .i64 (at_ l 0).2] 30 (0, 0)) by
    have e : w.heap.size + 1 = (W3.alloc (.cells #[.int .i64 0, .int .i64 0] 30)).heap.size := by simp [hs3]
    rw [hW5, e]; exact heap_alloc_new _ _)
  have T2 := Lib.hid (show W5.heap[w.heap.size]? = some (.cells #[.int .i64 0, .int .i64 0] 30 (0, 0)) by
    rw [hW5]
    refine (Below.heap_alloc _ _ _ (by simp [hs3])).trans ?_
    rw [← hs3]; exact heap_alloc_new _ _)
  have HM := Lib.hid hm
  have HMIN := Lib.hid (pop_perm (l := l) (by omega))
  have HDN := Lib.hid (pop_start HA'.out)
  have HS5 := Lib.hid hs5
  have HLG := Lib.hid hltg
  clear hW5 hW3 hs3 hold hpl hC c1 c2 d1 d2 f1 f2 fh hmc hgh hgh2 O1
  refine (sink_any W5 h g cap (popL l) O5.out R5.out HDN.out (by rw [pop_length]; omega)).mono ?_
  rintro e w6 ⟨l', rfl, hO6, hR6, hp6, hA6, hK6⟩
  have hT4 : w6.heap[w.heap.size + 1]? = some (.cells #[.int .i64 (at_ l 0).1, .int .i64 (at_ l 0).2] 30 (0, 0)) := (hK6.block _ (by omega) (by omega)).trans T4.out
  have hT2 : w6.heap[w.heap.size]? = some (.cells #[.int .i64 0, .int .i64 0] 30 (0, 0)) := (hK6.block _ (by omega) (by omega)).trans T2.out
  have q1 : w6.cell? ⟨w.heap.size + 1, 0, none⟩ = some (.int .i64 (at_ l 0).1) := cell_of_row w6 _ 0 _ 30 (0, 0) hT4
  have q2 : w6.cell? ⟨w.heap.size + 1, 1, none⟩ = some (.int .i64 (at_ l 0).2) := cell_of_row w6 _ 1 _ 30 (0, 0) hT4
  have q3 : w6.cell? ⟨w.heap.size, 0, none⟩ = some (.int .i64 0) := cell_of_row w6 _ 0 _ 30 (0, 0) hT2
  have q4 : w6.cell? ⟨w.heap.size, 1, none⟩ = some (.int .i64 0) := cell_of_row w6 _ 1 _ 30 (0, 0) hT2
  have q5 : w6.frozen? ⟨w.heap.size, 0, none⟩ = false := by simp [World.frozen?, hT2]
  have q6 : w6.frozen? ⟨w.heap.size, 1, none⟩ = false := by simp [World.frozen?, hT2]
  have K6 := Lib.hid (K5.out.trans hK6 (U := (fun k => k = h ∨ k = g)) (fun _ _ hx => hx) (fun _ _ hx => .inr hx))
  have O6 := Lib.hid hO6
  have R6 := Lib.hid hR6
  have P6 := Lib.hid hp6
  have A6 := Lib.hid hA6
  clear hO6 hR6 hp6 hA6 hK6 hT4 hT2
  go_wp2
  refine bodyPost_ret (results_pop rfl _ _ w.heap.size (at_ l 0) true rfl rfl ?_ ?_) rfl ?_
  · rw [World.cell?_setCell_other _ _ _ _ (by simp), World.cell?_setCell_same' _ _ _ (by rw [q3]; rfl)]
  · rw [World.cell?_setCell_same' _ _ _ (by rw [World.cell?_setCell_other _ _ _ _ (by simp), q4]; rfl)]
  refine ⟨l', rfl, ?_, R6.out.keep ?_, HMIN.out.trans (P6.out.symm.cons _), A6.out, ?_⟩
  · refine Eq.trans ?_ O6.out
    rw [Below.heap_setCell _ _ _ _ (Nat.ne_of_lt hlth), Below.heap_setCell _ _ _ _ (Nat.ne_of_lt hlth)]
  · rw [Below.heap_setCell _ _ _ _ (Nat.ne_of_lt HLG.out), Below.heap_setCell _ _ _ _ (Nat.ne_of_lt HLG.out)]
  · exact ⟨K6.out.os, K6.out.tape, K6.out.output, by have := K6.out.size; simpa using this, fun k hk hS => by
      rw [Below.heap_setCell _ _ _ _ (Nat.ne_of_lt hk), Below.heap_setCell _ _ _ _ (Nat.ne_of_lt hk)]
      exact K6.out.block k hk hS⟩

end Go.Proofs.Ytcmbmocineegoaa
