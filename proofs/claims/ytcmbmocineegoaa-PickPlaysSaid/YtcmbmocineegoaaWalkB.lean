/-
  What New, Len, less and swap do.
  Conditions: the heap's row is whole, the places lie in it.
-/
import Derived.Test.YtcmbmocineegoaaWalkA
import Derived.BigRegion
namespace Go.Proofs.Ytcmbmocineegoaa
open Go.ChangeShapes Go.WideShapes Go.RowKit

theorem class_less {B : Nat} {W w : World} (hB : B ≤ W.heap.size) (h : Below B W w) (a b : D) : Calls Try.prog 20 #[dv a, dv b] w fun e w'' => e = .returned (.bool (less a b)) ∧ Below B W w'' :=
  (less_any a b w).mono fun _ _ ⟨he, hb⟩ => ⟨he, h.trans (hb.mono (Nat.le_trans hB h.size))⟩
section
variable {ρ : Operand → Value} {o : Oper}
theorem run_nil {x : Operand} (ho : o.op = .nilCheck x) {a : Addr} (hx : ρ x = .pointer (some a)) (w : World) : (execOp ρ o).run Try.prog w = .ok (.value (.pointer (some a))) w := by
  unfold execOp; rw [ho]; simp [hx, go_sem]
theorem run_field0 {x : Operand} (ho : o.op = .fieldAddr 60 x 0) {h : Nat} (hx : ρ x = .pointer (some ⟨h, 0, none⟩)) (w : World) : (execOp ρ o).run Try.prog w = .ok (.value (.pointer (some ⟨h, 0, none⟩))) w := by
  unfold execOp; rw [ho]; simp [hx, go_sem]
theorem run_load_sl {x : Operand} (ho : o.op = .load 39 x) {a : Addr} (hx : ρ x = .pointer (some a)) {v : Value} {w : World} (hc : w.cell? a = some v) :
    (execOp ρ o).run Try.prog w = .ok (.value v) w := by
  unfold execOp
  rw [ho]
  simp [hx, Instr.loadAt, Instr.sureAddr, loadVar, isAgg, Sem.run_bind, run_underlying Try.underlying39, load, Sem.run, hc]
end
/-- The heap's own block: one cell, the row's slice. -/
def HObj (w : World) (h : Nat) (v : Value) : Prop := w.heap[h]? = some (.cells #[v] 60 (0, 0))
theorem hb_cell {w : World} {h : Nat} {v : Value} (H : HObj w h v) : w.cell? ⟨h, 0, none⟩ = some v := by
  rw [cell_of_row w h 0 #[v] 60 (0, 0) H]; rfl
theorem hb_free {w : World} {h : Nat} {v : Value} (H : HObj w h v) : w.frozen? ⟨h, 0, none⟩ = false := by
  unfold HObj at H; simp [World.frozen?, H]
theorem hb_lt {w : World} {h : Nat} {v : Value} (H : HObj w h v) : h < w.heap.size := by
  rcases Nat.lt_or_ge h w.heap.size with hl | hl
  · exact hl
  · unfold HObj at H; rw [Array.getElem?_eq_none hl] at H; cases H
theorem hb_ne {w : World} {h g cap : Nat} {v : Value} {l : List D} (H : HObj w h v) (R : HRow w g cap l) : h ≠ g := by
  rintro rfl
  obtain ⟨cur, hg, _⟩ := R.ex
  unfold HObj at H
  rw [H] at hg
  injection hg with hg
  injection hg with _ ht _
  exact absurd ht (by decide)

set_option maxRecDepth 100000 in
set_option maxHeartbeats 1000000 in
theorem hless_any (w : World) (h g cap : Nat) (l : List D) (HO : HObj w h (.slice (some ⟨g, 0, none⟩) l.length cap)) (HR : HRow w g cap l) (i k : Nat) (hi : i < l.length) (hk : k < l.length) :
    Calls Try.prog 28 #[.pointer (some ⟨h, 0, none⟩), .int .i64 (i : Int), .int .i64 (k : Int)] w fun e w' => e = .returned (.bool (less (at_ l i) (at_ l k))) ∧ Below w.heap.size w w' := by
  go_enter Try.func28, Try.ntmps28
  go_wp2_with fail
  refine region_class (fun w' => Below w.heap.size w w') (by kernel_rfl) (by kernel_rfl) (Below.refl _ _).drew ?_
  refine q_move_is rfl (.tmp 0) (.pointer (some ⟨h, 0, none⟩)) rfl rfl ?_
  simp only [Act.put, List.setIfInBounds_toArray, List.set_cons_succ, List.set_cons_zero]
  refine q_val rfl (fun w' hw' => run_nil (x := .tmp 7) (a := ⟨h, 0, none⟩) rfl rfl w') ?_
  simp only [Act.put, List.setIfInBounds_toArray, List.set_cons_succ, List.set_cons_zero]
  refine q_val rfl (fun w' hw' => run_field0 (x := .tmp 8) (h := h) rfl rfl w') ?_
  simp only [Act.put, List.setIfInBounds_toArray, List.set_cons_succ, List.set_cons_zero]
  refine q_val rfl (fun w' hw' => run_load_sl (x := .tmp 9) (a := ⟨h, 0, none⟩) (v := .slice (some ⟨g, 0, none⟩) l.length cap) rfl rfl (hb_cell ((hw'.block h (hb_lt HO)).trans HO))) ?_
  simp only [Act.put, List.setIfInBounds_toArray, List.set_cons_succ, List.set_cons_zero]
  refine q_move_is rfl (.tmp 1) (.int .i64 (i : Int)) rfl rfl ?_
  simp only [Act.put, List.setIfInBounds_toArray, List.set_cons_succ, List.set_cons_zero]
  refine q_val rfl (fun w' hw' => run_at_due (x := .tmp 10) (y := .tmp 11) (g := g) (n := l.length) (c := cap) (i := i) rfl rfl rfl hi w') ?_
  simp only [Act.put, List.setIfInBounds_toArray, List.set_cons_succ, List.set_cons_zero]
  refine q_val rfl (fun w' hw' => run_load_due (x := .tmp 12) (g := g) (i := i * 2) (d := at_ l i) rfl rfl ((HR.keep (hw'.block g HR.lt)).c1 hi) ((HR.keep (hw'.block g HR.lt)).c2 hi)) ?_
  simp only [Act.put, List.setIfInBounds_toArray, List.set_cons_succ, List.set_cons_zero]
  refine q_move_is rfl (.tmp 0) (.pointer (some ⟨h, 0, none⟩)) rfl rfl ?_
  simp only [Act.put, List.setIfInBounds_toArray, List.set_cons_succ, List.set_cons_zero]
  refine q_val rfl (fun w' hw' => run_nil (x := .tmp 14) (a := ⟨h, 0, none⟩) rfl rfl w') ?_
  simp only [Act.put, List.setIfInBounds_toArray, List.set_cons_succ, List.set_cons_zero]
  refine q_val rfl (fun w' hw' => run_field0 (x := .tmp 15) (h := h) rfl rfl w') ?_
  simp only [Act.put, List.setIfInBounds_toArray, List.set_cons_succ, List.set_cons_zero]
  refine q_val rfl (fun w' hw' => run_load_sl (x := .tmp 16) (a := ⟨h, 0, none⟩) (v := .slice (some ⟨g, 0, none⟩) l.length cap) rfl rfl (hb_cell ((hw'.block h (hb_lt HO)).trans HO))) ?_
  simp only [Act.put, List.setIfInBounds_toArray, List.set_cons_succ, List.set_cons_zero]
  refine q_move_is rfl (.tmp 2) (.int .i64 (k : Int)) rfl rfl ?_
  simp only [Act.put, List.setIfInBounds_toArray, List.set_cons_succ, List.set_cons_zero]
  refine q_val rfl (fun w' hw' => run_at_due (x := .tmp 17) (y := .tmp 18) (g := g) (n := l.length) (c := cap) (i := k) rfl rfl rfl hk w') ?_
  simp only [Act.put, List.setIfInBounds_toArray, List.set_cons_succ, List.set_cons_zero]
  refine q_val rfl (fun w' hw' => run_load_due (x := .tmp 19) (g := g) (i := k * 2) (d := at_ l k) rfl rfl ((HR.keep (hw'.block g HR.lt)).c1 hk) ((HR.keep (hw'.block g HR.lt)).c2 hk)) ?_
  simp only [Act.put, List.setIfInBounds_toArray, List.set_cons_succ, List.set_cons_zero]
  refine q_call rfl (args := #[dv (at_ l i), dv (at_ l k)]) (fun w' hw' => run_call2 (u := dv (at_ l i)) (v := dv (at_ l k)) rfl Try.call20 rfl rfl w') (fun w' hw' => class_less (Nat.le_refl _) hw' (at_ l i) (at_ l k)) ?_
  simp only [Act.put, List.setIfInBounds_toArray, List.set_cons_succ, List.set_cons_zero]
  refine q_assign_is rfl (.tmp 21) (.bool (less (at_ l i) (at_ l k))) rfl rfl ?_
  simp only [Act.put, List.setIfInBounds_toArray, List.set_cons_succ, List.set_cons_zero]
  refine wpQuiet_nil ?_
  intro w' hw'
  go_wp2
  go_ret
  exact ⟨rfl, hw'⟩

set_option maxRecDepth 100000 in
set_option maxHeartbeats 1000000 in
theorem swap_any (w : World) (h g cap : Nat) (l : List D) (HO : HObj w h (.slice (some ⟨g, 0, none⟩) l.length cap)) (HR : HRow w g cap l) (i k : Nat) (hi : i < l.length) (hk : k < l.length) (hne : i ≠ k) :
    Calls Try.prog 29 #[.pointer (some ⟨h, 0, none⟩), .int .i64 (i : Int), .int .i64 (k : Int)] w fun e w' => e = .returned (.tuple #[]) ∧ HRow w' g cap (swapL l i k) ∧ Kept (· = g) w w' ∧ w'.heap.size = w.heap.size := by
  have hC := hb_cell HO
  have ci1 := HR.c1 hi
  have ci2 := HR.c2 hi
  have ck1 := HR.c1 hk
  have ck2 := HR.c2 hk
  have fi1 := HR.free (i * 2)
  have fi2 := HR.free (i * 2 + 1)
  have fk1 := HR.free (k * 2)
  have fk2 := HR.free (k * 2 + 1)
  have i1 : (0 : Int) ≤ (i : Int) := by omega
  have i2 : (i : Int) < (l.length : Int) := by omega
  have k1 : (0 : Int) ≤ (k : Int) := by omega
  have k2 : (k : Int) < (l.length : Int) := by omega
  have n1 : ¬ i * 2 = k * 2 := by omega
  have n2 : ¬ k * 2 = i * 2 := by omega
  have n3 : ¬ i * 2 + 1 = k * 2 := by omega
  have n4 : ¬ k * 2 + 1 = i * 2 := by omega
  have n5 : ¬ i * 2 = k * 2 + 1 := by omega
  have n6 : ¬ k * 2 = i * 2 + 1 := by omega
  have n7 : ¬ i * 2 + 1 = k * 2 + 1 := by omega
  have n8 : ¬ k * 2 + 1 = i * 2 + 1 := by omega
  have HO' := Lib.hid HO
  have HR' := Lib.hid HR
  clear HO HR
  go_enter Try.func29, Try.ntmps29
  go_wp2_with fail
  go_region
  all_goals go_wp2
  go_end0
  refine ⟨rfl, ((HR'.out.put hi (at_ l k)).put (by simpa using hk) (at_ l i)).drew, ?_, ?_⟩
  · have hkp := (putD_kept w g i (at_ l k)).trans (U := (· = g)) (putD_kept _ g k (at_ l i)) (fun _ _ h => h) (fun _ _ h => h)
    exact ⟨hkp.os, hkp.tape, hkp.output, hkp.size, hkp.block⟩
  · have h1 := putD_size w g i (at_ l k)
    have h2 := putD_size (putD w g i (at_ l k)) g k (at_ l i)
    exact h2.trans h1

theorem new_any (w : World) : Calls Try.prog 14 #[] w fun e w' => e = .returned (.pointer (some ⟨w.heap.size, 0, none⟩)) ∧ HObj w' w.heap.size (.slice none 0 0) ∧ Below w.heap.size w w' ∧ w'.heap.size = w.heap.size + 1 := by
  go_enter Try.func14, Try.ntmps14
  go_wp2
  go_ret
  exact ⟨rfl, heap_alloc_new w _, (Below.refl _ _).alloc (Nat.le_refl _) _, by simp⟩

theorem len_any (w : World) (h : Nat) (a : Option Addr) (n cap : Nat) (HO : HObj w h (.slice a n cap)) : Calls Try.prog 19 #[.pointer (some ⟨h, 0, none⟩)] w fun e w' => e = .returned (.int .i64 (n : Int)) ∧ w' = w := by
  have hC := hb_cell HO
  have HO' := Lib.hid HO
  clear HO
  go_enter Try.func19, Try.ntmps19
  go_wp2
  go_ret
  exact ⟨rfl, rfl⟩
theorem len_none (w : World) : Calls Try.prog 19 #[.pointer none] w fun e w' => e = .returned (.int .i64 0) ∧ w' = w := by
  go_enter Try.func19, Try.ntmps19
  go_wp2
  go_ret
  exact ⟨rfl, rfl⟩

end Go.Proofs.Ytcmbmocineegoaa
