/-
  Of unlike items one is less, and what is less than the lesser one is less than the greater one: HeapOrder answers true at every three items, and writes nothing that was there.
  Conditions: none.
-/
import Derived.Test.YtcmbmocineegoaaOpen
namespace Go.Proofs.Ytcmbmocineegoaa
open Go.ChangeShapes Go.WideShapes Go.ChangeAt Go.RowKit

set_option maxRecDepth 100000 in
theorem row_cells {w : World} {g : Nat} {x : D} (h : w.heap[g]? = some (.cells #[.int .i64 x.1, .int .i64 x.2] 30 (0, 0))) : w.cell? ⟨g, 0, none⟩ = some (.int .i64 x.1) ∧ w.cell? ⟨g, 0 + 1, none⟩ = some (.int .i64 x.2) := ⟨(at_of_row h).1, (at_of_row h).2.1⟩
theorem keep_row {w w' : World} {g : Nat} {x : D} (h : w.heap[g]? = some (.cells #[.int .i64 x.1, .int .i64 x.2] 30 (0, 0))) (hb : Below w.heap.size w w') : w'.heap[g]? = some (.cells #[.int .i64 x.1, .int .i64 x.2] 30 (0, 0)) := by
  rw [hb.block g ?_]; exact h
  rcases Nat.lt_or_ge g w.heap.size with hl | hl
  · exact hl
  · rw [Array.getElem?_eq_none hl] at h; cases h

set_option maxRecDepth 100000 in
set_option maxHeartbeats 1000000 in
theorem order_o1a (w : World) (x y z : D) (h1 : less x y = true) (h2 : less y x = false) (h3 : less y z = true) (h4 : less x z = true) (hne : ¬ x.1 = y.1) :
    Calls Try.prog 4 #[dv x, dv y, dv z] w fun e w' => e = .returned (.bool true) ∧ Below w.heap.size w w' := by
  have H1 := Lib.hid h1
  have H2 := Lib.hid h2
  have H3 := Lib.hid h3
  have H4 := Lib.hid h4
  clear h1 h2 h3 h4
  unfold dv
  go_enter Try.func4, Try.ntmps4
  go_wp2_with fail
  obtain ⟨W, hW⟩ : ∃ W, W = ((w.alloc (.cells #[.int .i64 x.1, .int .i64 x.2] 30)).alloc (.cells #[.int .i64 y.1, .int .i64 y.2] 30)).alloc (.cells #[.int .i64 z.1, .int .i64 z.2] 30) := ⟨_, rfl⟩
  have RX := Lib.hid (show W.heap[w.heap.size + 0]? = some (.cells #[.int .i64 x.1, .int .i64 x.2] 30 (0, 0)) by
    rw [hW]; exact (Below.heap_alloc _ _ _ (by simp; omega)).trans ((Below.heap_alloc _ _ _ (by simp)).trans (heap_alloc_new w _)))
  have RY := Lib.hid (show W.heap[w.heap.size + 1]? = some (.cells #[.int .i64 y.1, .int .i64 y.2] 30 (0, 0)) by
    rw [hW]; refine (Below.heap_alloc _ _ _ (by simp)).trans ?_
    have := heap_alloc_new (w.alloc (.cells #[.int .i64 x.1, .int .i64 x.2] 30)) (.cells #[.int .i64 y.1, .int .i64 y.2] 30)
    simpa using this)
  have RZ := Lib.hid (show W.heap[w.heap.size + 2]? = some (.cells #[.int .i64 z.1, .int .i64 z.2] 30 (0, 0)) by
    rw [hW]
    have := heap_alloc_new ((w.alloc (.cells #[.int .i64 x.1, .int .i64 x.2] 30)).alloc (.cells #[.int .i64 y.1, .int .i64 y.2] 30)) (.cells #[.int .i64 z.1, .int .i64 z.2] 30)
    simpa using this)
  have BW := Lib.hid (show Below w.heap.size w W by
    rw [hW]; exact (((Below.refl _ _).alloc (Nat.le_refl _) _).alloc (by simp) _).alloc (by simp; omega) _)
  rw [← hW]
  clear hW
  refine region_class (fun w' => Below W.heap.size W w') (by kernel_rfl) (by kernel_rfl) (Below.refl _ _).drew ?_
  refine q_val rfl (fun w' hw' => run_load_due (x := .tmp 3) (g := w.heap.size + 0) (i := 0) (d := x) rfl rfl (row_cells (keep_row RX.out hw')).1 (row_cells (keep_row RX.out hw')).2) ?_
  simp only [Act.put, List.setIfInBounds_toArray, List.set_cons_succ, List.set_cons_zero]
  refine q_val rfl (fun w' hw' => run_load_due (x := .tmp 4) (g := w.heap.size + 1) (i := 0) (d := y) rfl rfl (row_cells (keep_row RY.out hw')).1 (row_cells (keep_row RY.out hw')).2) ?_
  simp only [Act.put, List.setIfInBounds_toArray, List.set_cons_succ, List.set_cons_zero]
  refine q_call rfl (args := #[dv x, dv y]) (fun w' hw' => run_call2 (u := dv x) (v := dv y) rfl Try.call20 rfl rfl w') (fun w' hw' => by have := class_less (Nat.le_refl _) hw' x y; rw [H1.out] at this; exact this) ?_
  simp only [Act.put, List.setIfInBounds_toArray, List.set_cons_succ, List.set_cons_zero]
  refine q_val rfl (fun w' hw' => run_load_due (x := .tmp 4) (g := w.heap.size + 1) (i := 0) (d := y) rfl rfl (row_cells (keep_row RY.out hw')).1 (row_cells (keep_row RY.out hw')).2) ?_
  simp only [Act.put, List.setIfInBounds_toArray, List.set_cons_succ, List.set_cons_zero]
  refine q_val rfl (fun w' hw' => run_load_due (x := .tmp 3) (g := w.heap.size + 0) (i := 0) (d := x) rfl rfl (row_cells (keep_row RX.out hw')).1 (row_cells (keep_row RX.out hw')).2) ?_
  simp only [Act.put, List.setIfInBounds_toArray, List.set_cons_succ, List.set_cons_zero]
  refine q_call rfl (args := #[dv y, dv x]) (fun w' hw' => run_call2 (u := dv y) (v := dv x) rfl Try.call20 rfl rfl w') (fun w' hw' => by have := class_less (Nat.le_refl _) hw' y x; rw [H2.out] at this; exact this) ?_
  simp only [Act.put, List.setIfInBounds_toArray, List.set_cons_succ, List.set_cons_zero]
  refine q_val rfl (fun w' hw' => run_load_due (x := .tmp 4) (g := w.heap.size + 1) (i := 0) (d := y) rfl rfl (row_cells (keep_row RY.out hw')).1 (row_cells (keep_row RY.out hw')).2) ?_
  simp only [Act.put, List.setIfInBounds_toArray, List.set_cons_succ, List.set_cons_zero]
  refine q_val rfl (fun w' hw' => run_load_due (x := .tmp 5) (g := w.heap.size + 2) (i := 0) (d := z) rfl rfl (row_cells (keep_row RZ.out hw')).1 (row_cells (keep_row RZ.out hw')).2) ?_
  simp only [Act.put, List.setIfInBounds_toArray, List.set_cons_succ, List.set_cons_zero]
  refine q_call rfl (args := #[dv y, dv z]) (fun w' hw' => run_call2 (u := dv y) (v := dv z) rfl Try.call20 rfl rfl w') (fun w' hw' => by have := class_less (Nat.le_refl _) hw' y z; rw [H3.out] at this; exact this) ?_
  simp only [Act.put, List.setIfInBounds_toArray, List.set_cons_succ, List.set_cons_zero]
  refine q_assign_is rfl (.tmp 12) (.bool true) rfl rfl ?_
  simp only [Act.put, List.setIfInBounds_toArray, List.set_cons_succ, List.set_cons_zero]
  refine q_assign_is rfl (.tmp 15) (.bool false) rfl rfl ?_
  simp only [Act.put, List.setIfInBounds_toArray, List.set_cons_succ, List.set_cons_zero]
  refine q_assign_is rfl (.tmp 18) (.bool true) rfl rfl ?_
  simp only [Act.put, List.setIfInBounds_toArray, List.set_cons_succ, List.set_cons_zero]
  refine wpQuiet_nil ?_
  intro w1 hw1
  have B1 := Lib.hid (BW.out.trans (hw1.mono BW.out.size))
  have QX := Lib.hid (keep_row RX.out hw1)
  have QY := Lib.hid (keep_row RY.out hw1)
  have QZ := Lib.hid (keep_row RZ.out hw1)
  clear hw1
  go_wp2_with fail
  refine (awake_any _).mono ?_
  rintro e w2 ⟨rfl, hb2⟩
  have B2 := Lib.hid (B1.out.trans (hb2.mono B1.out.size))
  obtain ⟨x1, x2, _, _⟩ := at_of_row (keep_row QX.out hb2)
  rw [Nat.add_zero] at x1 x2
  obtain ⟨y1, y2, _, _⟩ := at_of_row (keep_row QY.out hb2)
  obtain ⟨z1, z2, _, _⟩ := at_of_row (keep_row QZ.out hb2)
  clear hb2
  go_wp2_with fail
  have hlz := less_any x z w2
  rw [H4.out] at hlz
  unfold dv at hlz
  refine hlz.mono ?_
  rintro e w3 ⟨rfl, hb3⟩
  go_wp2
  go_ret
  exact ⟨rfl, B2.out.trans (hb3.mono B2.out.size)⟩

set_option maxRecDepth 100000 in
set_option maxHeartbeats 1000000 in
theorem order_o1b (w : World) (x y z : D) (h1 : less x y = true) (h2 : less y x = false) (h3 : less y z = true) (h4 : less x z = true) (hne1 : x.1 = y.1) (hne2 : ¬ x.2 = y.2) :
    Calls Try.prog 4 #[dv x, dv y, dv z] w fun e w' => e = .returned (.bool true) ∧ Below w.heap.size w w' := by
  have H1 := Lib.hid h1
  have H2 := Lib.hid h2
  have H3 := Lib.hid h3
  have H4 := Lib.hid h4
  have HNE1 := Lib.hid hne1
  clear hne1
  clear h1 h2 h3 h4
  unfold dv
  go_enter Try.func4, Try.ntmps4
  go_wp2_with fail
  obtain ⟨W, hW⟩ : ∃ W, W = ((w.alloc (.cells #[.int .i64 x.1, .int .i64 x.2] 30)).alloc (.cells #[.int .i64 y.1, .int .i64 y.2] 30)).alloc (.cells #[.int .i64 z.1, .int .i64 z.2] 30) := ⟨_, rfl⟩
  have RX := Lib.hid (show W.heap[w.heap.size + 0]? = some (.cells #[.int .i64 x.1, .int .i64 x.2] 30 (0, 0)) by
    rw [hW]; exact (Below.heap_alloc _ _ _ (by simp; omega)).trans ((Below.heap_alloc _ _ _ (by simp)).trans (heap_alloc_new w _)))
  have RY := Lib.hid (show W.heap[w.heap.size + 1]? = some (.cells #[.int .i64 y.1, .int .i64 y.2] 30 (0, 0)) by
    rw [hW]; refine (Below.heap_alloc _ _ _ (by simp)).trans ?_
    have := heap_alloc_new (w.alloc (.cells #[.int .i64 x.1, .int .i64 x.2] 30)) (.cells #[.int .i64 y.1, .int .i64 y.2] 30)
    simpa using this)
  have RZ := Lib.hid (show W.heap[w.heap.size + 2]? = some (.cells #[.int .i64 z.1, .int .i64 z.2] 30 (0, 0)) by
    rw [hW]
    have := heap_alloc_new ((w.alloc (.cells #[.int .i64 x.1, .int .i64 x.2] 30)).alloc (.cells #[.int .i64 y.1, .int .i64 y.2] 30)) (.cells #[.int .i64 z.1, .int .i64 z.2] 30)
    simpa using this)
  have BW := Lib.hid (show Below w.heap.size w W by
    rw [hW]; exact (((Below.refl _ _).alloc (Nat.le_refl _) _).alloc (by simp) _).alloc (by simp; omega) _)
  rw [← hW]
  clear hW
  refine region_class (fun w' => Below W.heap.size W w') (by kernel_rfl) (by kernel_rfl) (Below.refl _ _).drew ?_
  refine q_val rfl (fun w' hw' => run_load_due (x := .tmp 3) (g := w.heap.size + 0) (i := 0) (d := x) rfl rfl (row_cells (keep_row RX.out hw')).1 (row_cells (keep_row RX.out hw')).2) ?_
  simp only [Act.put, List.setIfInBounds_toArray, List.set_cons_succ, List.set_cons_zero]
  refine q_val rfl (fun w' hw' => run_load_due (x := .tmp 4) (g := w.heap.size + 1) (i := 0) (d := y) rfl rfl (row_cells (keep_row RY.out hw')).1 (row_cells (keep_row RY.out hw')).2) ?_
  simp only [Act.put, List.setIfInBounds_toArray, List.set_cons_succ, List.set_cons_zero]
  refine q_call rfl (args := #[dv x, dv y]) (fun w' hw' => run_call2 (u := dv x) (v := dv y) rfl Try.call20 rfl rfl w') (fun w' hw' => by have := class_less (Nat.le_refl _) hw' x y; rw [H1.out] at this; exact this) ?_
  simp only [Act.put, List.setIfInBounds_toArray, List.set_cons_succ, List.set_cons_zero]
  refine q_val rfl (fun w' hw' => run_load_due (x := .tmp 4) (g := w.heap.size + 1) (i := 0) (d := y) rfl rfl (row_cells (keep_row RY.out hw')).1 (row_cells (keep_row RY.out hw')).2) ?_
  simp only [Act.put, List.setIfInBounds_toArray, List.set_cons_succ, List.set_cons_zero]
  refine q_val rfl (fun w' hw' => run_load_due (x := .tmp 3) (g := w.heap.size + 0) (i := 0) (d := x) rfl rfl (row_cells (keep_row RX.out hw')).1 (row_cells (keep_row RX.out hw')).2) ?_
  simp only [Act.put, List.setIfInBounds_toArray, List.set_cons_succ, List.set_cons_zero]
  refine q_call rfl (args := #[dv y, dv x]) (fun w' hw' => run_call2 (u := dv y) (v := dv x) rfl Try.call20 rfl rfl w') (fun w' hw' => by have := class_less (Nat.le_refl _) hw' y x; rw [H2.out] at this; exact this) ?_
  simp only [Act.put, List.setIfInBounds_toArray, List.set_cons_succ, List.set_cons_zero]
  refine q_val rfl (fun w' hw' => run_load_due (x := .tmp 4) (g := w.heap.size + 1) (i := 0) (d := y) rfl rfl (row_cells (keep_row RY.out hw')).1 (row_cells (keep_row RY.out hw')).2) ?_
  simp only [Act.put, List.setIfInBounds_toArray, List.set_cons_succ, List.set_cons_zero]
  refine q_val rfl (fun w' hw' => run_load_due (x := .tmp 5) (g := w.heap.size + 2) (i := 0) (d := z) rfl rfl (row_cells (keep_row RZ.out hw')).1 (row_cells (keep_row RZ.out hw')).2) ?_
  simp only [Act.put, List.setIfInBounds_toArray, List.set_cons_succ, List.set_cons_zero]
  refine q_call rfl (args := #[dv y, dv z]) (fun w' hw' => run_call2 (u := dv y) (v := dv z) rfl Try.call20 rfl rfl w') (fun w' hw' => by have := class_less (Nat.le_refl _) hw' y z; rw [H3.out] at this; exact this) ?_
  simp only [Act.put, List.setIfInBounds_toArray, List.set_cons_succ, List.set_cons_zero]
  refine q_assign_is rfl (.tmp 12) (.bool true) rfl rfl ?_
  simp only [Act.put, List.setIfInBounds_toArray, List.set_cons_succ, List.set_cons_zero]
  refine q_assign_is rfl (.tmp 15) (.bool false) rfl rfl ?_
  simp only [Act.put, List.setIfInBounds_toArray, List.set_cons_succ, List.set_cons_zero]
  refine q_assign_is rfl (.tmp 18) (.bool true) rfl rfl ?_
  simp only [Act.put, List.setIfInBounds_toArray, List.set_cons_succ, List.set_cons_zero]
  refine wpQuiet_nil ?_
  intro w1 hw1
  have B1 := Lib.hid (BW.out.trans (hw1.mono BW.out.size))
  have QX := Lib.hid (keep_row RX.out hw1)
  have QY := Lib.hid (keep_row RY.out hw1)
  have QZ := Lib.hid (keep_row RZ.out hw1)
  clear hw1
  go_wp2_with fail
  refine (awake_any _).mono ?_
  rintro e w2 ⟨rfl, hb2⟩
  have B2 := Lib.hid (B1.out.trans (hb2.mono B1.out.size))
  obtain ⟨x1, x2, _, _⟩ := at_of_row (keep_row QX.out hb2)
  rw [Nat.add_zero] at x1 x2
  have hne1 := HNE1.out
  obtain ⟨y1, y2, _, _⟩ := at_of_row (keep_row QY.out hb2)
  obtain ⟨z1, z2, _, _⟩ := at_of_row (keep_row QZ.out hb2)
  clear hb2
  go_wp2_with fail
  have hlz := less_any x z w2
  rw [H4.out] at hlz
  unfold dv at hlz
  rw [HNE1.out] at hlz
  refine hlz.mono ?_
  rintro e w3 ⟨rfl, hb3⟩
  go_wp2
  go_ret
  exact ⟨rfl, B2.out.trans (hb3.mono B2.out.size)⟩

set_option maxRecDepth 100000 in
set_option maxHeartbeats 1000000 in
theorem order_o2a (w : World) (x y z : D) (h1 : less x y = true) (h2 : less y x = false) (h3 : less y z = false) (hne : ¬ x.1 = y.1) :
    Calls Try.prog 4 #[dv x, dv y, dv z] w fun e w' => e = .returned (.bool true) ∧ Below w.heap.size w w' := by
  have H1 := Lib.hid h1
  have H2 := Lib.hid h2
  have H3 := Lib.hid h3
  skip
  clear h1 h2 h3 
  unfold dv
  go_enter Try.func4, Try.ntmps4
  go_wp2_with fail
  obtain ⟨W, hW⟩ : ∃ W, W = ((w.alloc (.cells #[.int .i64 x.1, .int .i64 x.2] 30)).alloc (.cells #[.int .i64 y.1, .int .i64 y.2] 30)).alloc (.cells #[.int .i64 z.1, .int .i64 z.2] 30) := ⟨_, rfl⟩
  have RX := Lib.hid (show W.heap[w.heap.size + 0]? = some (.cells #[.int .i64 x.1, .int .i64 x.2] 30 (0, 0)) by
    rw [hW]; exact (Below.heap_alloc _ _ _ (by simp; omega)).trans ((Below.heap_alloc _ _ _ (by simp)).trans (heap_alloc_new w _)))
  have RY := Lib.hid (show W.heap[w.heap.size + 1]? = some (.cells #[.int .i64 y.1, .int .i64 y.2] 30 (0, 0)) by
    rw [hW]; refine (Below.heap_alloc _ _ _ (by simp)).trans ?_
    have := heap_alloc_new (w.alloc (.cells #[.int .i64 x.1, .int .i64 x.2] 30)) (.cells #[.int .i64 y.1, .int .i64 y.2] 30)
    simpa using this)
  have RZ := Lib.hid (show W.heap[w.heap.size + 2]? = some (.cells #[.int .i64 z.1, .int .i64 z.2] 30 (0, 0)) by
    rw [hW]
    have := heap_alloc_new ((w.alloc (.cells #[.int .i64 x.1, .int .i64 x.2] 30)).alloc (.cells #[.int .i64 y.1, .int .i64 y.2] 30)) (.cells #[.int .i64 z.1, .int .i64 z.2] 30)
    simpa using this)
  have BW := Lib.hid (show Below w.heap.size w W by
    rw [hW]; exact (((Below.refl _ _).alloc (Nat.le_refl _) _).alloc (by simp) _).alloc (by simp; omega) _)
  rw [← hW]
  clear hW
  refine region_class (fun w' => Below W.heap.size W w') (by kernel_rfl) (by kernel_rfl) (Below.refl _ _).drew ?_
  refine q_val rfl (fun w' hw' => run_load_due (x := .tmp 3) (g := w.heap.size + 0) (i := 0) (d := x) rfl rfl (row_cells (keep_row RX.out hw')).1 (row_cells (keep_row RX.out hw')).2) ?_
  simp only [Act.put, List.setIfInBounds_toArray, List.set_cons_succ, List.set_cons_zero]
  refine q_val rfl (fun w' hw' => run_load_due (x := .tmp 4) (g := w.heap.size + 1) (i := 0) (d := y) rfl rfl (row_cells (keep_row RY.out hw')).1 (row_cells (keep_row RY.out hw')).2) ?_
  simp only [Act.put, List.setIfInBounds_toArray, List.set_cons_succ, List.set_cons_zero]
  refine q_call rfl (args := #[dv x, dv y]) (fun w' hw' => run_call2 (u := dv x) (v := dv y) rfl Try.call20 rfl rfl w') (fun w' hw' => by have := class_less (Nat.le_refl _) hw' x y; rw [H1.out] at this; exact this) ?_
  simp only [Act.put, List.setIfInBounds_toArray, List.set_cons_succ, List.set_cons_zero]
  refine q_val rfl (fun w' hw' => run_load_due (x := .tmp 4) (g := w.heap.size + 1) (i := 0) (d := y) rfl rfl (row_cells (keep_row RY.out hw')).1 (row_cells (keep_row RY.out hw')).2) ?_
  simp only [Act.put, List.setIfInBounds_toArray, List.set_cons_succ, List.set_cons_zero]
  refine q_val rfl (fun w' hw' => run_load_due (x := .tmp 3) (g := w.heap.size + 0) (i := 0) (d := x) rfl rfl (row_cells (keep_row RX.out hw')).1 (row_cells (keep_row RX.out hw')).2) ?_
  simp only [Act.put, List.setIfInBounds_toArray, List.set_cons_succ, List.set_cons_zero]
  refine q_call rfl (args := #[dv y, dv x]) (fun w' hw' => run_call2 (u := dv y) (v := dv x) rfl Try.call20 rfl rfl w') (fun w' hw' => by have := class_less (Nat.le_refl _) hw' y x; rw [H2.out] at this; exact this) ?_
  simp only [Act.put, List.setIfInBounds_toArray, List.set_cons_succ, List.set_cons_zero]
  refine q_val rfl (fun w' hw' => run_load_due (x := .tmp 4) (g := w.heap.size + 1) (i := 0) (d := y) rfl rfl (row_cells (keep_row RY.out hw')).1 (row_cells (keep_row RY.out hw')).2) ?_
  simp only [Act.put, List.setIfInBounds_toArray, List.set_cons_succ, List.set_cons_zero]
  refine q_val rfl (fun w' hw' => run_load_due (x := .tmp 5) (g := w.heap.size + 2) (i := 0) (d := z) rfl rfl (row_cells (keep_row RZ.out hw')).1 (row_cells (keep_row RZ.out hw')).2) ?_
  simp only [Act.put, List.setIfInBounds_toArray, List.set_cons_succ, List.set_cons_zero]
  refine q_call rfl (args := #[dv y, dv z]) (fun w' hw' => run_call2 (u := dv y) (v := dv z) rfl Try.call20 rfl rfl w') (fun w' hw' => by have := class_less (Nat.le_refl _) hw' y z; rw [H3.out] at this; exact this) ?_
  simp only [Act.put, List.setIfInBounds_toArray, List.set_cons_succ, List.set_cons_zero]
  refine q_assign_is rfl (.tmp 12) (.bool true) rfl rfl ?_
  simp only [Act.put, List.setIfInBounds_toArray, List.set_cons_succ, List.set_cons_zero]
  refine q_assign_is rfl (.tmp 15) (.bool false) rfl rfl ?_
  simp only [Act.put, List.setIfInBounds_toArray, List.set_cons_succ, List.set_cons_zero]
  refine q_assign_is rfl (.tmp 18) (.bool false) rfl rfl ?_
  simp only [Act.put, List.setIfInBounds_toArray, List.set_cons_succ, List.set_cons_zero]
  refine wpQuiet_nil ?_
  intro w1 hw1
  have B1 := Lib.hid (BW.out.trans (hw1.mono BW.out.size))
  have QX := Lib.hid (keep_row RX.out hw1)
  have QY := Lib.hid (keep_row RY.out hw1)
  have QZ := Lib.hid (keep_row RZ.out hw1)
  clear hw1
  go_wp2_with fail
  refine (awake_any _).mono ?_
  rintro e w2 ⟨rfl, hb2⟩
  have B2 := Lib.hid (B1.out.trans (hb2.mono B1.out.size))
  obtain ⟨x1, x2, _, _⟩ := at_of_row (keep_row QX.out hb2)
  rw [Nat.add_zero] at x1 x2
  obtain ⟨y1, y2, _, _⟩ := at_of_row (keep_row QY.out hb2)
  obtain ⟨z1, z2, _, _⟩ := at_of_row (keep_row QZ.out hb2)
  clear hb2
  go_wp2
  go_ret
  exact ⟨rfl, B2.out⟩

set_option maxRecDepth 100000 in
set_option maxHeartbeats 1000000 in
theorem order_o2b (w : World) (x y z : D) (h1 : less x y = true) (h2 : less y x = false) (h3 : less y z = false) (hne1 : x.1 = y.1) (hne2 : ¬ x.2 = y.2) :
    Calls Try.prog 4 #[dv x, dv y, dv z] w fun e w' => e = .returned (.bool true) ∧ Below w.heap.size w w' := by
  have H1 := Lib.hid h1
  have H2 := Lib.hid h2
  have H3 := Lib.hid h3
  skip
  have HNE1 := Lib.hid hne1
  clear hne1
  clear h1 h2 h3 
  unfold dv
  go_enter Try.func4, Try.ntmps4
  go_wp2_with fail
  obtain ⟨W, hW⟩ : ∃ W, W = ((w.alloc (.cells #[.int .i64 x.1, .int .i64 x.2] 30)).alloc (.cells #[.int .i64 y.1, .int .i64 y.2] 30)).alloc (.cells #[.int .i64 z.1, .int .i64 z.2] 30) := ⟨_, rfl⟩
  have RX := Lib.hid (show W.heap[w.heap.size + 0]? = some (.cells #[.int .i64 x.1, .int .i64 x.2] 30 (0, 0)) by
    rw [hW]; exact (Below.heap_alloc _ _ _ (by simp; omega)).trans ((Below.heap_alloc _ _ _ (by simp)).trans (heap_alloc_new w _)))
  have RY := Lib.hid (show W.heap[w.heap.size + 1]? = some (.cells #[.int .i64 y.1, .int .i64 y.2] 30 (0, 0)) by
    rw [hW]; refine (Below.heap_alloc _ _ _ (by simp)).trans ?_
    have := heap_alloc_new (w.alloc (.cells #[.int .i64 x.1, .int .i64 x.2] 30)) (.cells #[.int .i64 y.1, .int .i64 y.2] 30)
    simpa using this)
  have RZ := Lib.hid (show W.heap[w.heap.size + 2]? = some (.cells #[.int .i64 z.1, .int .i64 z.2] 30 (0, 0)) by
    rw [hW]
    have := heap_alloc_new ((w.alloc (.cells #[.int .i64 x.1, .int .i64 x.2] 30)).alloc (.cells #[.int .i64 y.1, .int .i64 y.2] 30)) (.cells #[.int .i64 z.1, .int .i64 z.2] 30)
    simpa using this)
  have BW := Lib.hid (show Below w.heap.size w W by
    rw [hW]; exact (((Below.refl _ _).alloc (Nat.le_refl _) _).alloc (by simp) _).alloc (by simp; omega) _)
  rw [← hW]
  clear hW
  refine region_class (fun w' => Below W.heap.size W w') (by kernel_rfl) (by kernel_rfl) (Below.refl _ _).drew ?_
  refine q_val rfl (fun w' hw' => run_load_due (x := .tmp 3) (g := w.heap.size + 0) (i := 0) (d := x) rfl rfl (row_cells (keep_row RX.out hw')).1 (row_cells (keep_row RX.out hw')).2) ?_
  simp only [Act.put, List.setIfInBounds_toArray, List.set_cons_succ, List.set_cons_zero]
  refine q_val rfl (fun w' hw' => run_load_due (x := .tmp 4) (g := w.heap.size + 1) (i := 0) (d := y) rfl rfl (row_cells (keep_row RY.out hw')).1 (row_cells (keep_row RY.out hw')).2) ?_
  simp only [Act.put, List.setIfInBounds_toArray, List.set_cons_succ, List.set_cons_zero]
  refine q_call rfl (args := #[dv x, dv y]) (fun w' hw' => run_call2 (u := dv x) (v := dv y) rfl Try.call20 rfl rfl w') (fun w' hw' => by have := class_less (Nat.le_refl _) hw' x y; rw [H1.out] at this; exact this) ?_
  simp only [Act.put, List.setIfInBounds_toArray, List.set_cons_succ, List.set_cons_zero]
  refine q_val rfl (fun w' hw' => run_load_due (x := .tmp 4) (g := w.heap.size + 1) (i := 0) (d := y) rfl rfl (row_cells (keep_row RY.out hw')).1 (row_cells (keep_row RY.out hw')).2) ?_
  simp only [Act.put, List.setIfInBounds_toArray, List.set_cons_succ, List.set_cons_zero]
  refine q_val rfl (fun w' hw' => run_load_due (x := .tmp 3) (g := w.heap.size + 0) (i := 0) (d := x) rfl rfl (row_cells (keep_row RX.out hw')).1 (row_cells (keep_row RX.out hw')).2) ?_
  simp only [Act.put, List.setIfInBounds_toArray, List.set_cons_succ, List.set_cons_zero]
  refine q_call rfl (args := #[dv y, dv x]) (fun w' hw' => run_call2 (u := dv y) (v := dv x) rfl Try.call20 rfl rfl w') (fun w' hw' => by have := class_less (Nat.le_refl _) hw' y x; rw [H2.out] at this; exact this) ?_
  simp only [Act.put, List.setIfInBounds_toArray, List.set_cons_succ, List.set_cons_zero]
  refine q_val rfl (fun w' hw' => run_load_due (x := .tmp 4) (g := w.heap.size + 1) (i := 0) (d := y) rfl rfl (row_cells (keep_row RY.out hw')).1 (row_cells (keep_row RY.out hw')).2) ?_
  simp only [Act.put, List.setIfInBounds_toArray, List.set_cons_succ, List.set_cons_zero]
  refine q_val rfl (fun w' hw' => run_load_due (x := .tmp 5) (g := w.heap.size + 2) (i := 0) (d := z) rfl rfl (row_cells (keep_row RZ.out hw')).1 (row_cells (keep_row RZ.out hw')).2) ?_
  simp only [Act.put, List.setIfInBounds_toArray, List.set_cons_succ, List.set_cons_zero]
  refine q_call rfl (args := #[dv y, dv z]) (fun w' hw' => run_call2 (u := dv y) (v := dv z) rfl Try.call20 rfl rfl w') (fun w' hw' => by have := class_less (Nat.le_refl _) hw' y z; rw [H3.out] at this; exact this) ?_
  simp only [Act.put, List.setIfInBounds_toArray, List.set_cons_succ, List.set_cons_zero]
  refine q_assign_is rfl (.tmp 12) (.bool true) rfl rfl ?_
  simp only [Act.put, List.setIfInBounds_toArray, List.set_cons_succ, List.set_cons_zero]
  refine q_assign_is rfl (.tmp 15) (.bool false) rfl rfl ?_
  simp only [Act.put, List.setIfInBounds_toArray, List.set_cons_succ, List.set_cons_zero]
  refine q_assign_is rfl (.tmp 18) (.bool false) rfl rfl ?_
  simp only [Act.put, List.setIfInBounds_toArray, List.set_cons_succ, List.set_cons_zero]
  refine wpQuiet_nil ?_
  intro w1 hw1
  have B1 := Lib.hid (BW.out.trans (hw1.mono BW.out.size))
  have QX := Lib.hid (keep_row RX.out hw1)
  have QY := Lib.hid (keep_row RY.out hw1)
  have QZ := Lib.hid (keep_row RZ.out hw1)
  clear hw1
  go_wp2_with fail
  refine (awake_any _).mono ?_
  rintro e w2 ⟨rfl, hb2⟩
  have B2 := Lib.hid (B1.out.trans (hb2.mono B1.out.size))
  obtain ⟨x1, x2, _, _⟩ := at_of_row (keep_row QX.out hb2)
  rw [Nat.add_zero] at x1 x2
  have hne1 := HNE1.out
  obtain ⟨y1, y2, _, _⟩ := at_of_row (keep_row QY.out hb2)
  obtain ⟨z1, z2, _, _⟩ := at_of_row (keep_row QZ.out hb2)
  clear hb2
  go_wp2
  go_ret
  exact ⟨rfl, B2.out⟩

set_option maxRecDepth 100000 in
set_option maxHeartbeats 1000000 in
theorem order_o3a (w : World) (x y z : D) (h1 : less x y = false) (h2 : less y x = true) (h3 : less y z = true) (hne : ¬ x.1 = y.1) :
    Calls Try.prog 4 #[dv x, dv y, dv z] w fun e w' => e = .returned (.bool true) ∧ Below w.heap.size w w' := by
  have H1 := Lib.hid h1
  have H2 := Lib.hid h2
  have H3 := Lib.hid h3
  skip
  clear h1 h2 h3 
  unfold dv
  go_enter Try.func4, Try.ntmps4
  go_wp2_with fail
  obtain ⟨W, hW⟩ : ∃ W, W = ((w.alloc (.cells #[.int .i64 x.1, .int .i64 x.2] 30)).alloc (.cells #[.int .i64 y.1, .int .i64 y.2] 30)).alloc (.cells #[.int .i64 z.1, .int .i64 z.2] 30) := ⟨_, rfl⟩
  have RX := Lib.hid (show W.heap[w.heap.size + 0]? = some (.cells #[.int .i64 x.1, .int .i64 x.2] 30 (0, 0)) by
    rw [hW]; exact (Below.heap_alloc _ _ _ (by simp; omega)).trans ((Below.heap_alloc _ _ _ (by simp)).trans (heap_alloc_new w _)))
  have RY := Lib.hid (show W.heap[w.heap.size + 1]? = some (.cells #[.int .i64 y.1, .int .i64 y.2] 30 (0, 0)) by
    rw [hW]; refine (Below.heap_alloc _ _ _ (by simp)).trans ?_
    have := heap_alloc_new (w.alloc (.cells #[.int .i64 x.1, .int .i64 x.2] 30)) (.cells #[.int .i64 y.1, .int .i64 y.2] 30)
    simpa using this)
  have RZ := Lib.hid (show W.heap[w.heap.size + 2]? = some (.cells #[.int .i64 z.1, .int .i64 z.2] 30 (0, 0)) by
    rw [hW]
    have := heap_alloc_new ((w.alloc (.cells #[.int .i64 x.1, .int .i64 x.2] 30)).alloc (.cells #[.int .i64 y.1, .int .i64 y.2] 30)) (.cells #[.int .i64 z.1, .int .i64 z.2] 30)
    simpa using this)
  have BW := Lib.hid (show Below w.heap.size w W by
    rw [hW]; exact (((Below.refl _ _).alloc (Nat.le_refl _) _).alloc (by simp) _).alloc (by simp; omega) _)
  rw [← hW]
  clear hW
  refine region_class (fun w' => Below W.heap.size W w') (by kernel_rfl) (by kernel_rfl) (Below.refl _ _).drew ?_
  refine q_val rfl (fun w' hw' => run_load_due (x := .tmp 3) (g := w.heap.size + 0) (i := 0) (d := x) rfl rfl (row_cells (keep_row RX.out hw')).1 (row_cells (keep_row RX.out hw')).2) ?_
  simp only [Act.put, List.setIfInBounds_toArray, List.set_cons_succ, List.set_cons_zero]
  refine q_val rfl (fun w' hw' => run_load_due (x := .tmp 4) (g := w.heap.size + 1) (i := 0) (d := y) rfl rfl (row_cells (keep_row RY.out hw')).1 (row_cells (keep_row RY.out hw')).2) ?_
  simp only [Act.put, List.setIfInBounds_toArray, List.set_cons_succ, List.set_cons_zero]
  refine q_call rfl (args := #[dv x, dv y]) (fun w' hw' => run_call2 (u := dv x) (v := dv y) rfl Try.call20 rfl rfl w') (fun w' hw' => by have := class_less (Nat.le_refl _) hw' x y; rw [H1.out] at this; exact this) ?_
  simp only [Act.put, List.setIfInBounds_toArray, List.set_cons_succ, List.set_cons_zero]
  refine q_val rfl (fun w' hw' => run_load_due (x := .tmp 4) (g := w.heap.size + 1) (i := 0) (d := y) rfl rfl (row_cells (keep_row RY.out hw')).1 (row_cells (keep_row RY.out hw')).2) ?_
  simp only [Act.put, List.setIfInBounds_toArray, List.set_cons_succ, List.set_cons_zero]
  refine q_val rfl (fun w' hw' => run_load_due (x := .tmp 3) (g := w.heap.size + 0) (i := 0) (d := x) rfl rfl (row_cells (keep_row RX.out hw')).1 (row_cells (keep_row RX.out hw')).2) ?_
  simp only [Act.put, List.setIfInBounds_toArray, List.set_cons_succ, List.set_cons_zero]
  refine q_call rfl (args := #[dv y, dv x]) (fun w' hw' => run_call2 (u := dv y) (v := dv x) rfl Try.call20 rfl rfl w') (fun w' hw' => by have := class_less (Nat.le_refl _) hw' y x; rw [H2.out] at this; exact this) ?_
  simp only [Act.put, List.setIfInBounds_toArray, List.set_cons_succ, List.set_cons_zero]
  refine q_val rfl (fun w' hw' => run_load_due (x := .tmp 4) (g := w.heap.size + 1) (i := 0) (d := y) rfl rfl (row_cells (keep_row RY.out hw')).1 (row_cells (keep_row RY.out hw')).2) ?_
  simp only [Act.put, List.setIfInBounds_toArray, List.set_cons_succ, List.set_cons_zero]
  refine q_val rfl (fun w' hw' => run_load_due (x := .tmp 5) (g := w.heap.size + 2) (i := 0) (d := z) rfl rfl (row_cells (keep_row RZ.out hw')).1 (row_cells (keep_row RZ.out hw')).2) ?_
  simp only [Act.put, List.setIfInBounds_toArray, List.set_cons_succ, List.set_cons_zero]
  refine q_call rfl (args := #[dv y, dv z]) (fun w' hw' => run_call2 (u := dv y) (v := dv z) rfl Try.call20 rfl rfl w') (fun w' hw' => by have := class_less (Nat.le_refl _) hw' y z; rw [H3.out] at this; exact this) ?_
  simp only [Act.put, List.setIfInBounds_toArray, List.set_cons_succ, List.set_cons_zero]
  refine q_assign_is rfl (.tmp 12) (.bool false) rfl rfl ?_
  simp only [Act.put, List.setIfInBounds_toArray, List.set_cons_succ, List.set_cons_zero]
  refine q_assign_is rfl (.tmp 15) (.bool true) rfl rfl ?_
  simp only [Act.put, List.setIfInBounds_toArray, List.set_cons_succ, List.set_cons_zero]
  refine q_assign_is rfl (.tmp 18) (.bool true) rfl rfl ?_
  simp only [Act.put, List.setIfInBounds_toArray, List.set_cons_succ, List.set_cons_zero]
  refine wpQuiet_nil ?_
  intro w1 hw1
  have B1 := Lib.hid (BW.out.trans (hw1.mono BW.out.size))
  have QX := Lib.hid (keep_row RX.out hw1)
  have QY := Lib.hid (keep_row RY.out hw1)
  have QZ := Lib.hid (keep_row RZ.out hw1)
  clear hw1
  go_wp2_with fail
  refine (awake_any _).mono ?_
  rintro e w2 ⟨rfl, hb2⟩
  have B2 := Lib.hid (B1.out.trans (hb2.mono B1.out.size))
  obtain ⟨x1, x2, _, _⟩ := at_of_row (keep_row QX.out hb2)
  rw [Nat.add_zero] at x1 x2
  obtain ⟨y1, y2, _, _⟩ := at_of_row (keep_row QY.out hb2)
  obtain ⟨z1, z2, _, _⟩ := at_of_row (keep_row QZ.out hb2)
  clear hb2
  go_wp2
  go_ret
  exact ⟨rfl, B2.out⟩

set_option maxRecDepth 100000 in
set_option maxHeartbeats 1000000 in
theorem order_o3b (w : World) (x y z : D) (h1 : less x y = false) (h2 : less y x = true) (h3 : less y z = true) (hne1 : x.1 = y.1) (hne2 : ¬ x.2 = y.2) :
    Calls Try.prog 4 #[dv x, dv y, dv z] w fun e w' => e = .returned (.bool true) ∧ Below w.heap.size w w' := by
  have H1 := Lib.hid h1
  have H2 := Lib.hid h2
  have H3 := Lib.hid h3
  skip
  have HNE1 := Lib.hid hne1
  clear hne1
  clear h1 h2 h3 
  unfold dv
  go_enter Try.func4, Try.ntmps4
  go_wp2_with fail
  obtain ⟨W, hW⟩ : ∃ W, W = ((w.alloc (.cells #[.int .i64 x.1, .int .i64 x.2] 30)).alloc (.cells #[.int .i64 y.1, .int .i64 y.2] 30)).alloc (.cells #[.int .i64 z.1, .int .i64 z.2] 30) := ⟨_, rfl⟩
  have RX := Lib.hid (show W.heap[w.heap.size + 0]? = some (.cells #[.int .i64 x.1, .int .i64 x.2] 30 (0, 0)) by
    rw [hW]; exact (Below.heap_alloc _ _ _ (by simp; omega)).trans ((Below.heap_alloc _ _ _ (by simp)).trans (heap_alloc_new w _)))
  have RY := Lib.hid (show W.heap[w.heap.size + 1]? = some (.cells #[.int .i64 y.1, .int .i64 y.2] 30 (0, 0)) by
    rw [hW]; refine (Below.heap_alloc _ _ _ (by simp)).trans ?_
    have := heap_alloc_new (w.alloc (.cells #[.int .i64 x.1, .int .i64 x.2] 30)) (.cells #[.int .i64 y.1, .int .i64 y.2] 30)
    simpa using this)
  have RZ := Lib.hid (show W.heap[w.heap.size + 2]? = some (.cells #[.int .i64 z.1, .int .i64 z.2] 30 (0, 0)) by
    rw [hW]
    have := heap_alloc_new ((w.alloc (.cells #[.int .i64 x.1, .int .i64 x.2] 30)).alloc (.cells #[.int .i64 y.1, .int .i64 y.2] 30)) (.cells #[.int .i64 z.1, .int .i64 z.2] 30)
    simpa using this)
  have BW := Lib.hid (show Below w.heap.size w W by
    rw [hW]; exact (((Below.refl _ _).alloc (Nat.le_refl _) _).alloc (by simp) _).alloc (by simp; omega) _)
  rw [← hW]
  clear hW
  refine region_class (fun w' => Below W.heap.size W w') (by kernel_rfl) (by kernel_rfl) (Below.refl _ _).drew ?_
  refine q_val rfl (fun w' hw' => run_load_due (x := .tmp 3) (g := w.heap.size + 0) (i := 0) (d := x) rfl rfl (row_cells (keep_row RX.out hw')).1 (row_cells (keep_row RX.out hw')).2) ?_
  simp only [Act.put, List.setIfInBounds_toArray, List.set_cons_succ, List.set_cons_zero]
  refine q_val rfl (fun w' hw' => run_load_due (x := .tmp 4) (g := w.heap.size + 1) (i := 0) (d := y) rfl rfl (row_cells (keep_row RY.out hw')).1 (row_cells (keep_row RY.out hw')).2) ?_
  simp only [Act.put, List.setIfInBounds_toArray, List.set_cons_succ, List.set_cons_zero]
  refine q_call rfl (args := #[dv x, dv y]) (fun w' hw' => run_call2 (u := dv x) (v := dv y) rfl Try.call20 rfl rfl w') (fun w' hw' => by have := class_less (Nat.le_refl _) hw' x y; rw [H1.out] at this; exact this) ?_
  simp only [Act.put, List.setIfInBounds_toArray, List.set_cons_succ, List.set_cons_zero]
  refine q_val rfl (fun w' hw' => run_load_due (x := .tmp 4) (g := w.heap.size + 1) (i := 0) (d := y) rfl rfl (row_cells (keep_row RY.out hw')).1 (row_cells (keep_row RY.out hw')).2) ?_
  simp only [Act.put, List.setIfInBounds_toArray, List.set_cons_succ, List.set_cons_zero]
  refine q_val rfl (fun w' hw' => run_load_due (x := .tmp 3) (g := w.heap.size + 0) (i := 0) (d := x) rfl rfl (row_cells (keep_row RX.out hw')).1 (row_cells (keep_row RX.out hw')).2) ?_
  simp only [Act.put, List.setIfInBounds_toArray, List.set_cons_succ, List.set_cons_zero]
  refine q_call rfl (args := #[dv y, dv x]) (fun w' hw' => run_call2 (u := dv y) (v := dv x) rfl Try.call20 rfl rfl w') (fun w' hw' => by have := class_less (Nat.le_refl _) hw' y x; rw [H2.out] at this; exact this) ?_
  simp only [Act.put, List.setIfInBounds_toArray, List.set_cons_succ, List.set_cons_zero]
  refine q_val rfl (fun w' hw' => run_load_due (x := .tmp 4) (g := w.heap.size + 1) (i := 0) (d := y) rfl rfl (row_cells (keep_row RY.out hw')).1 (row_cells (keep_row RY.out hw')).2) ?_
  simp only [Act.put, List.setIfInBounds_toArray, List.set_cons_succ, List.set_cons_zero]
  refine q_val rfl (fun w' hw' => run_load_due (x := .tmp 5) (g := w.heap.size + 2) (i := 0) (d := z) rfl rfl (row_cells (keep_row RZ.out hw')).1 (row_cells (keep_row RZ.out hw')).2) ?_
  simp only [Act.put, List.setIfInBounds_toArray, List.set_cons_succ, List.set_cons_zero]
  refine q_call rfl (args := #[dv y, dv z]) (fun w' hw' => run_call2 (u := dv y) (v := dv z) rfl Try.call20 rfl rfl w') (fun w' hw' => by have := class_less (Nat.le_refl _) hw' y z; rw [H3.out] at this; exact this) ?_
  simp only [Act.put, List.setIfInBounds_toArray, List.set_cons_succ, List.set_cons_zero]
  refine q_assign_is rfl (.tmp 12) (.bool false) rfl rfl ?_
  simp only [Act.put, List.setIfInBounds_toArray, List.set_cons_succ, List.set_cons_zero]
  refine q_assign_is rfl (.tmp 15) (.bool true) rfl rfl ?_
  simp only [Act.put, List.setIfInBounds_toArray, List.set_cons_succ, List.set_cons_zero]
  refine q_assign_is rfl (.tmp 18) (.bool true) rfl rfl ?_
  simp only [Act.put, List.setIfInBounds_toArray, List.set_cons_succ, List.set_cons_zero]
  refine wpQuiet_nil ?_
  intro w1 hw1
  have B1 := Lib.hid (BW.out.trans (hw1.mono BW.out.size))
  have QX := Lib.hid (keep_row RX.out hw1)
  have QY := Lib.hid (keep_row RY.out hw1)
  have QZ := Lib.hid (keep_row RZ.out hw1)
  clear hw1
  go_wp2_with fail
  refine (awake_any _).mono ?_
  rintro e w2 ⟨rfl, hb2⟩
  have B2 := Lib.hid (B1.out.trans (hb2.mono B1.out.size))
  obtain ⟨x1, x2, _, _⟩ := at_of_row (keep_row QX.out hb2)
  rw [Nat.add_zero] at x1 x2
  have hne1 := HNE1.out
  obtain ⟨y1, y2, _, _⟩ := at_of_row (keep_row QY.out hb2)
  obtain ⟨z1, z2, _, _⟩ := at_of_row (keep_row QZ.out hb2)
  clear hb2
  go_wp2
  go_ret
  exact ⟨rfl, B2.out⟩

set_option maxRecDepth 100000 in
set_option maxHeartbeats 1000000 in
theorem order_o4a (w : World) (x y z : D) (h1 : less x y = false) (h2 : less y x = true) (h3 : less y z = false) (hne : ¬ x.1 = y.1) :
    Calls Try.prog 4 #[dv x, dv y, dv z] w fun e w' => e = .returned (.bool true) ∧ Below w.heap.size w w' := by
  have H1 := Lib.hid h1
  have H2 := Lib.hid h2
  have H3 := Lib.hid h3
  skip
  clear h1 h2 h3 
  unfold dv
  go_enter Try.func4, Try.ntmps4
  go_wp2_with fail
  obtain ⟨W, hW⟩ : ∃ W, W = ((w.alloc (.cells #[.int .i64 x.1, .int .i64 x.2] 30)).alloc (.cells #[.int .i64 y.1, .int .i64 y.2] 30)).alloc (.cells #[.int .i64 z.1, .int .i64 z.2] 30) := ⟨_, rfl⟩
  have RX := Lib.hid (show W.heap[w.heap.size + 0]? = some (.cells #[.int .i64 x.1, .int .i64 x.2] 30 (0, 0)) by
    rw [hW]; exact (Below.heap_alloc _ _ _ (by simp; omega)).trans ((Below.heap_alloc _ _ _ (by simp)).trans (heap_alloc_new w _)))
  have RY := Lib.hid (show W.heap[w.heap.size + 1]? = some (.cells #[.int .i64 y.1, .int .i64 y.2] 30 (0, 0)) by
    rw [hW]; refine (Below.heap_alloc _ _ _ (by simp)).trans ?_
    have := heap_alloc_new (w.alloc (.cells #[.int .i64 x.1, .int .i64 x.2] 30)) (.cells #[.int .i64 y.1, .int .i64 y.2] 30)
    simpa using this)
  have RZ := Lib.hid (show W.heap[w.heap.size + 2]? = some (.cells #[.int .i64 z.1, .int .i64 z.2] 30 (0, 0)) by
    rw [hW]
    have := heap_alloc_new ((w.alloc (.cells #[.int .i64 x.1, .int .i64 x.2] 30)).alloc (.cells #[.int .i64 y.1, .int .i64 y.2] 30)) (.cells #[.int .i64 z.1, .int .i64 z.2] 30)
    simpa using this)
  have BW := Lib.hid (show Below w.heap.size w W by
    rw [hW]; exact (((Below.refl _ _).alloc (Nat.le_refl _) _).alloc (by simp) _).alloc (by simp; omega) _)
  rw [← hW]
  clear hW
  refine region_class (fun w' => Below W.heap.size W w') (by kernel_rfl) (by kernel_rfl) (Below.refl _ _).drew ?_
  refine q_val rfl (fun w' hw' => run_load_due (x := .tmp 3) (g := w.heap.size + 0) (i := 0) (d := x) rfl rfl (row_cells (keep_row RX.out hw')).1 (row_cells (keep_row RX.out hw')).2) ?_
  simp only [Act.put, List.setIfInBounds_toArray, List.set_cons_succ, List.set_cons_zero]
  refine q_val rfl (fun w' hw' => run_load_due (x := .tmp 4) (g := w.heap.size + 1) (i := 0) (d := y) rfl rfl (row_cells (keep_row RY.out hw')).1 (row_cells (keep_row RY.out hw')).2) ?_
  simp only [Act.put, List.setIfInBounds_toArray, List.set_cons_succ, List.set_cons_zero]
  refine q_call rfl (args := #[dv x, dv y]) (fun w' hw' => run_call2 (u := dv x) (v := dv y) rfl Try.call20 rfl rfl w') (fun w' hw' => by have := class_less (Nat.le_refl _) hw' x y; rw [H1.out] at this; exact this) ?_
  simp only [Act.put, List.setIfInBounds_toArray, List.set_cons_succ, List.set_cons_zero]
  refine q_val rfl (fun w' hw' => run_load_due (x := .tmp 4) (g := w.heap.size + 1) (i := 0) (d := y) rfl rfl (row_cells (keep_row RY.out hw')).1 (row_cells (keep_row RY.out hw')).2) ?_
  simp only [Act.put, List.setIfInBounds_toArray, List.set_cons_succ, List.set_cons_zero]
  refine q_val rfl (fun w' hw' => run_load_due (x := .tmp 3) (g := w.heap.size + 0) (i := 0) (d := x) rfl rfl (row_cells (keep_row RX.out hw')).1 (row_cells (keep_row RX.out hw')).2) ?_
  simp only [Act.put, List.setIfInBounds_toArray, List.set_cons_succ, List.set_cons_zero]
  refine q_call rfl (args := #[dv y, dv x]) (fun w' hw' => run_call2 (u := dv y) (v := dv x) rfl Try.call20 rfl rfl w') (fun w' hw' => by have := class_less (Nat.le_refl _) hw' y x; rw [H2.out] at this; exact this) ?_
  simp only [Act.put, List.setIfInBounds_toArray, List.set_cons_succ, List.set_cons_zero]
  refine q_val rfl (fun w' hw' => run_load_due (x := .tmp 4) (g := w.heap.size + 1) (i := 0) (d := y) rfl rfl (row_cells (keep_row RY.out hw')).1 (row_cells (keep_row RY.out hw')).2) ?_
  simp only [Act.put, List.setIfInBounds_toArray, List.set_cons_succ, List.set_cons_zero]
  refine q_val rfl (fun w' hw' => run_load_due (x := .tmp 5) (g := w.heap.size + 2) (i := 0) (d := z) rfl rfl (row_cells (keep_row RZ.out hw')).1 (row_cells (keep_row RZ.out hw')).2) ?_
  simp only [Act.put, List.setIfInBounds_toArray, List.set_cons_succ, List.set_cons_zero]
  refine q_call rfl (args := #[dv y, dv z]) (fun w' hw' => run_call2 (u := dv y) (v := dv z) rfl Try.call20 rfl rfl w') (fun w' hw' => by have := class_less (Nat.le_refl _) hw' y z; rw [H3.out] at this; exact this) ?_
  simp only [Act.put, List.setIfInBounds_toArray, List.set_cons_succ, List.set_cons_zero]
  refine q_assign_is rfl (.tmp 12) (.bool false) rfl rfl ?_
  simp only [Act.put, List.setIfInBounds_toArray, List.set_cons_succ, List.set_cons_zero]
  refine q_assign_is rfl (.tmp 15) (.bool true) rfl rfl ?_
  simp only [Act.put, List.setIfInBounds_toArray, List.set_cons_succ, List.set_cons_zero]
  refine q_assign_is rfl (.tmp 18) (.bool false) rfl rfl ?_
  simp only [Act.put, List.setIfInBounds_toArray, List.set_cons_succ, List.set_cons_zero]
  refine wpQuiet_nil ?_
  intro w1 hw1
  have B1 := Lib.hid (BW.out.trans (hw1.mono BW.out.size))
  have QX := Lib.hid (keep_row RX.out hw1)
  have QY := Lib.hid (keep_row RY.out hw1)
  have QZ := Lib.hid (keep_row RZ.out hw1)
  clear hw1
  go_wp2_with fail
  refine (awake_any _).mono ?_
  rintro e w2 ⟨rfl, hb2⟩
  have B2 := Lib.hid (B1.out.trans (hb2.mono B1.out.size))
  obtain ⟨x1, x2, _, _⟩ := at_of_row (keep_row QX.out hb2)
  rw [Nat.add_zero] at x1 x2
  obtain ⟨y1, y2, _, _⟩ := at_of_row (keep_row QY.out hb2)
  obtain ⟨z1, z2, _, _⟩ := at_of_row (keep_row QZ.out hb2)
  clear hb2
  go_wp2
  go_ret
  exact ⟨rfl, B2.out⟩

set_option maxRecDepth 100000 in
set_option maxHeartbeats 1000000 in
theorem order_o4b (w : World) (x y z : D) (h1 : less x y = false) (h2 : less y x = true) (h3 : less y z = false) (hne1 : x.1 = y.1) (hne2 : ¬ x.2 = y.2) :
    Calls Try.prog 4 #[dv x, dv y, dv z] w fun e w' => e = .returned (.bool true) ∧ Below w.heap.size w w' := by
  have H1 := Lib.hid h1
  have H2 := Lib.hid h2
  have H3 := Lib.hid h3
  skip
  have HNE1 := Lib.hid hne1
  clear hne1
  clear h1 h2 h3 
  unfold dv
  go_enter Try.func4, Try.ntmps4
  go_wp2_with fail
  obtain ⟨W, hW⟩ : ∃ W, W = ((w.alloc (.cells #[.int .i64 x.1, .int .i64 x.2] 30)).alloc (.cells #[.int .i64 y.1, .int .i64 y.2] 30)).alloc (.cells #[.int .i64 z.1, .int .i64 z.2] 30) := ⟨_, rfl⟩
  have RX := Lib.hid (show W.heap[w.heap.size + 0]? = some (.cells #[.int .i64 x.1, .int .i64 x.2] 30 (0, 0)) by
    rw [hW]; exact (Below.heap_alloc _ _ _ (by simp; omega)).trans ((Below.heap_alloc _ _ _ (by simp)).trans (heap_alloc_new w _)))
  have RY := Lib.hid (show W.heap[w.heap.size + 1]? = some (.cells #[.int .i64 y.1, .int .i64 y.2] 30 (0, 0)) by
    rw [hW]; refine (Below.heap_alloc _ _ _ (by simp)).trans ?_
    have := heap_alloc_new (w.alloc (.cells #[.int .i64 x.1, .int .i64 x.2] 30)) (.cells #[.int .i64 y.1, .int .i64 y.2] 30)
    simpa using this)
  have RZ := Lib.hid (show W.heap[w.heap.size + 2]? = some (.cells #[.int .i64 z.1, .int .i64 z.2] 30 (0, 0)) by
    rw [hW]
    have := heap_alloc_new ((w.alloc (.cells #[.int .i64 x.1, .int .i64 x.2] 30)).alloc (.cells #[.int .i64 y.1, .int .i64 y.2] 30)) (.cells #[.int .i64 z.1, .int .i64 z.2] 30)
    simpa using this)
  have BW := Lib.hid (show Below w.heap.size w W by
    rw [hW]; exact (((Below.refl _ _).alloc (Nat.le_refl _) _).alloc (by simp) _).alloc (by simp; omega) _)
  rw [← hW]
  clear hW
  refine region_class (fun w' => Below W.heap.size W w') (by kernel_rfl) (by kernel_rfl) (Below.refl _ _).drew ?_
  refine q_val rfl (fun w' hw' => run_load_due (x := .tmp 3) (g := w.heap.size + 0) (i := 0) (d := x) rfl rfl (row_cells (keep_row RX.out hw')).1 (row_cells (keep_row RX.out hw')).2) ?_
  simp only [Act.put, List.setIfInBounds_toArray, List.set_cons_succ, List.set_cons_zero]
  refine q_val rfl (fun w' hw' => run_load_due (x := .tmp 4) (g := w.heap.size + 1) (i := 0) (d := y) rfl rfl (row_cells (keep_row RY.out hw')).1 (row_cells (keep_row RY.out hw')).2) ?_
  simp only [Act.put, List.setIfInBounds_toArray, List.set_cons_succ, List.set_cons_zero]
  refine q_call rfl (args := #[dv x, dv y]) (fun w' hw' => run_call2 (u := dv x) (v := dv y) rfl Try.call20 rfl rfl w') (fun w' hw' => by have := class_less (Nat.le_refl _) hw' x y; rw [H1.out] at this; exact this) ?_
  simp only [Act.put, List.setIfInBounds_toArray, List.set_cons_succ, List.set_cons_zero]
  refine q_val rfl (fun w' hw' => run_load_due (x := .tmp 4) (g := w.heap.size + 1) (i := 0) (d := y) rfl rfl (row_cells (keep_row RY.out hw')).1 (row_cells (keep_row RY.out hw')).2) ?_
  simp only [Act.put, List.setIfInBounds_toArray, List.set_cons_succ, List.set_cons_zero]
  refine q_val rfl (fun w' hw' => run_load_due (x := .tmp 3) (g := w.heap.size + 0) (i := 0) (d := x) rfl rfl (row_cells (keep_row RX.out hw')).1 (row_cells (keep_row RX.out hw')).2) ?_
  simp only [Act.put, List.setIfInBounds_toArray, List.set_cons_succ, List.set_cons_zero]
  refine q_call rfl (args := #[dv y, dv x]) (fun w' hw' => run_call2 (u := dv y) (v := dv x) rfl Try.call20 rfl rfl w') (fun w' hw' => by have := class_less (Nat.le_refl _) hw' y x; rw [H2.out] at this; exact this) ?_
  simp only [Act.put, List.setIfInBounds_toArray, List.set_cons_succ, List.set_cons_zero]
  refine q_val rfl (fun w' hw' => run_load_due (x := .tmp 4) (g := w.heap.size + 1) (i := 0) (d := y) rfl rfl (row_cells (keep_row RY.out hw')).1 (row_cells (keep_row RY.out hw')).2) ?_
  simp only [Act.put, List.setIfInBounds_toArray, List.set_cons_succ, List.set_cons_zero]
  refine q_val rfl (fun w' hw' => run_load_due (x := .tmp 5) (g := w.heap.size + 2) (i := 0) (d := z) rfl rfl (row_cells (keep_row RZ.out hw')).1 (row_cells (keep_row RZ.out hw')).2) ?_
  simp only [Act.put, List.setIfInBounds_toArray, List.set_cons_succ, List.set_cons_zero]
  refine q_call rfl (args := #[dv y, dv z]) (fun w' hw' => run_call2 (u := dv y) (v := dv z) rfl Try.call20 rfl rfl w') (fun w' hw' => by have := class_less (Nat.le_refl _) hw' y z; rw [H3.out] at this; exact this) ?_
  simp only [Act.put, List.setIfInBounds_toArray, List.set_cons_succ, List.set_cons_zero]
  refine q_assign_is rfl (.tmp 12) (.bool false) rfl rfl ?_
  simp only [Act.put, List.setIfInBounds_toArray, List.set_cons_succ, List.set_cons_zero]
  refine q_assign_is rfl (.tmp 15) (.bool true) rfl rfl ?_
  simp only [Act.put, List.setIfInBounds_toArray, List.set_cons_succ, List.set_cons_zero]
  refine q_assign_is rfl (.tmp 18) (.bool false) rfl rfl ?_
  simp only [Act.put, List.setIfInBounds_toArray, List.set_cons_succ, List.set_cons_zero]
  refine wpQuiet_nil ?_
  intro w1 hw1
  have B1 := Lib.hid (BW.out.trans (hw1.mono BW.out.size))
  have QX := Lib.hid (keep_row RX.out hw1)
  have QY := Lib.hid (keep_row RY.out hw1)
  have QZ := Lib.hid (keep_row RZ.out hw1)
  clear hw1
  go_wp2_with fail
  refine (awake_any _).mono ?_
  rintro e w2 ⟨rfl, hb2⟩
  have B2 := Lib.hid (B1.out.trans (hb2.mono B1.out.size))
  obtain ⟨x1, x2, _, _⟩ := at_of_row (keep_row QX.out hb2)
  rw [Nat.add_zero] at x1 x2
  have hne1 := HNE1.out
  obtain ⟨y1, y2, _, _⟩ := at_of_row (keep_row QY.out hb2)
  obtain ⟨z1, z2, _, _⟩ := at_of_row (keep_row QZ.out hb2)
  clear hb2
  go_wp2
  go_ret
  exact ⟨rfl, B2.out⟩

set_option maxRecDepth 100000 in
set_option maxHeartbeats 1000000 in
theorem order_o5 (w : World) (x z : D) (h1 : less x x = false) (h2 : less x x = false) (h3 : less x z = true) :
    Calls Try.prog 4 #[dv x, dv x, dv z] w fun e w' => e = .returned (.bool true) ∧ Below w.heap.size w w' := by
  have H1 := Lib.hid h1
  have H2 := Lib.hid h2
  have H3 := Lib.hid h3
  skip
  clear h1 h2 h3 
  unfold dv
  go_enter Try.func4, Try.ntmps4
  go_wp2_with fail
  obtain ⟨W, hW⟩ : ∃ W, W = ((w.alloc (.cells #[.int .i64 x.1, .int .i64 x.2] 30)).alloc (.cells #[.int .i64 x.1, .int .i64 x.2] 30)).alloc (.cells #[.int .i64 z.1, .int .i64 z.2] 30) := ⟨_, rfl⟩
  have RX := Lib.hid (show W.heap[w.heap.size + 0]? = some (.cells #[.int .i64 x.1, .int .i64 x.2] 30 (0, 0)) by
    rw [hW]; exact (Below.heap_alloc _ _ _ (by simp; omega)).trans ((Below.heap_alloc _ _ _ (by simp)).trans (heap_alloc_new w _)))
  have RY := Lib.hid (show W.heap[w.heap.size + 1]? = some (.cells #[.int .i64 x.1, .int .i64 x.2] 30 (0, 0)) by
    rw [hW]; refine (Below.heap_alloc _ _ _ (by simp)).trans ?_
    have := heap_alloc_new (w.alloc (.cells #[.int .i64 x.1, .int .i64 x.2] 30)) (.cells #[.int .i64 x.1, .int .i64 x.2] 30)
    simpa using this)
  have RZ := Lib.hid (show W.heap[w.heap.size + 2]? = some (.cells #[.int .i64 z.1, .int .i64 z.2] 30 (0, 0)) by
    rw [hW]
    have := heap_alloc_new ((w.alloc (.cells #[.int .i64 x.1, .int .i64 x.2] 30)).alloc (.cells #[.int .i64 x.1, .int .i64 x.2] 30)) (.cells #[.int .i64 z.1, .int .i64 z.2] 30)
    simpa using this)
  have BW := Lib.hid (show Below w.heap.size w W by
    rw [hW]; exact (((Below.refl _ _).alloc (Nat.le_refl _) _).alloc (by simp) _).alloc (by simp; omega) _)
  rw [← hW]
  clear hW
  refine region_class (fun w' => Below W.heap.size W w') (by kernel_rfl) (by kernel_rfl) (Below.refl _ _).drew ?_
  refine q_val rfl (fun w' hw' => run_load_due (x := .tmp 3) (g := w.heap.size + 0) (i := 0) (d := x) rfl rfl (row_cells (keep_row RX.out hw')).1 (row_cells (keep_row RX.out hw')).2) ?_
  simp only [Act.put, List.setIfInBounds_toArray, List.set_cons_succ, List.set_cons_zero]
  refine q_val rfl (fun w' hw' => run_load_due (x := .tmp 4) (g := w.heap.size + 1) (i := 0) (d := x) rfl rfl (row_cells (keep_row RY.out hw')).1 (row_cells (keep_row RY.out hw')).2) ?_
  simp only [Act.put, List.setIfInBounds_toArray, List.set_cons_succ, List.set_cons_zero]
  refine q_call rfl (args := #[dv x, dv x]) (fun w' hw' => run_call2 (u := dv x) (v := dv x) rfl Try.call20 rfl rfl w') (fun w' hw' => by have := class_less (Nat.le_refl _) hw' x x; rw [H1.out] at this; exact this) ?_
  simp only [Act.put, List.setIfInBounds_toArray, List.set_cons_succ, List.set_cons_zero]
  refine q_val rfl (fun w' hw' => run_load_due (x := .tmp 4) (g := w.heap.size + 1) (i := 0) (d := x) rfl rfl (row_cells (keep_row RY.out hw')).1 (row_cells (keep_row RY.out hw')).2) ?_
  simp only [Act.put, List.setIfInBounds_toArray, List.set_cons_succ, List.set_cons_zero]
  refine q_val rfl (fun w' hw' => run_load_due (x := .tmp 3) (g := w.heap.size + 0) (i := 0) (d := x) rfl rfl (row_cells (keep_row RX.out hw')).1 (row_cells (keep_row RX.out hw')).2) ?_
  simp only [Act.put, List.setIfInBounds_toArray, List.set_cons_succ, List.set_cons_zero]
  refine q_call rfl (args := #[dv x, dv x]) (fun w' hw' => run_call2 (u := dv x) (v := dv x) rfl Try.call20 rfl rfl w') (fun w' hw' => by have := class_less (Nat.le_refl _) hw' x x; rw [H2.out] at this; exact this) ?_
  simp only [Act.put, List.setIfInBounds_toArray, List.set_cons_succ, List.set_cons_zero]
  refine q_val rfl (fun w' hw' => run_load_due (x := .tmp 4) (g := w.heap.size + 1) (i := 0) (d := x) rfl rfl (row_cells (keep_row RY.out hw')).1 (row_cells (keep_row RY.out hw')).2) ?_
  simp only [Act.put, List.setIfInBounds_toArray, List.set_cons_succ, List.set_cons_zero]
  refine q_val rfl (fun w' hw' => run_load_due (x := .tmp 5) (g := w.heap.size + 2) (i := 0) (d := z) rfl rfl (row_cells (keep_row RZ.out hw')).1 (row_cells (keep_row RZ.out hw')).2) ?_
  simp only [Act.put, List.setIfInBounds_toArray, List.set_cons_succ, List.set_cons_zero]
  refine q_call rfl (args := #[dv x, dv z]) (fun w' hw' => run_call2 (u := dv x) (v := dv z) rfl Try.call20 rfl rfl w') (fun w' hw' => by have := class_less (Nat.le_refl _) hw' x z; rw [H3.out] at this; exact this) ?_
  simp only [Act.put, List.setIfInBounds_toArray, List.set_cons_succ, List.set_cons_zero]
  refine q_assign_is rfl (.tmp 12) (.bool false) rfl rfl ?_
  simp only [Act.put, List.setIfInBounds_toArray, List.set_cons_succ, List.set_cons_zero]
  refine q_assign_is rfl (.tmp 15) (.bool false) rfl rfl ?_
  simp only [Act.put, List.setIfInBounds_toArray, List.set_cons_succ, List.set_cons_zero]
  refine q_assign_is rfl (.tmp 18) (.bool true) rfl rfl ?_
  simp only [Act.put, List.setIfInBounds_toArray, List.set_cons_succ, List.set_cons_zero]
  refine wpQuiet_nil ?_
  intro w1 hw1
  have B1 := Lib.hid (BW.out.trans (hw1.mono BW.out.size))
  have QX := Lib.hid (keep_row RX.out hw1)
  have QY := Lib.hid (keep_row RY.out hw1)
  have QZ := Lib.hid (keep_row RZ.out hw1)
  clear hw1
  go_wp2_with fail
  refine (awake_any _).mono ?_
  rintro e w2 ⟨rfl, hb2⟩
  have B2 := Lib.hid (B1.out.trans (hb2.mono B1.out.size))
  obtain ⟨x1, x2, _, _⟩ := at_of_row (keep_row QX.out hb2)
  rw [Nat.add_zero] at x1 x2
  obtain ⟨y1, y2, _, _⟩ := at_of_row (keep_row QY.out hb2)
  obtain ⟨z1, z2, _, _⟩ := at_of_row (keep_row QZ.out hb2)
  clear hb2
  go_wp2
  go_ret
  exact ⟨rfl, B2.out⟩

set_option maxRecDepth 100000 in
set_option maxHeartbeats 1000000 in
theorem order_o6 (w : World) (x z : D) (h1 : less x x = false) (h2 : less x x = false) (h3 : less x z = false) :
    Calls Try.prog 4 #[dv x, dv x, dv z] w fun e w' => e = .returned (.bool true) ∧ Below w.heap.size w w' := by
  have H1 := Lib.hid h1
  have H2 := Lib.hid h2
  have H3 := Lib.hid h3
  skip
  clear h1 h2 h3 
  unfold dv
  go_enter Try.func4, Try.ntmps4
  go_wp2_with fail
  obtain ⟨W, hW⟩ : ∃ W, W = ((w.alloc (.cells #[.int .i64 x.1, .int .i64 x.2] 30)).alloc (.cells #[.int .i64 x.1, .int .i64 x.2] 30)).alloc (.cells #[.int .i64 z.1, .int .i64 z.2] 30) := ⟨_, rfl⟩
  have RX := Lib.hid (show W.heap[w.heap.size + 0]? = some (.cells #[.int .i64 x.1, .int .i64 x.2] 30 (0, 0)) by
    rw [hW]; exact (Below.heap_alloc _ _ _ (by simp; omega)).trans ((Below.heap_alloc _ _ _ (by simp)).trans (heap_alloc_new w _)))
  have RY := Lib.hid (show W.heap[w.heap.size + 1]? = some (.cells #[.int .i64 x.1, .int .i64 x.2] 30 (0, 0)) by
    rw [hW]; refine (Below.heap_alloc _ _ _ (by simp)).trans ?_
    have := heap_alloc_new (w.alloc (.cells #[.int .i64 x.1, .int .i64 x.2] 30)) (.cells #[.int .i64 x.1, .int .i64 x.2] 30)
    simpa using this)
  have RZ := Lib.hid (show W.heap[w.heap.size + 2]? = some (.cells #[.int .i64 z.1, .int .i64 z.2] 30 (0, 0)) by
    rw [hW]
    have := heap_alloc_new ((w.alloc (.cells #[.int .i64 x.1, .int .i64 x.2] 30)).alloc (.cells #[.int .i64 x.1, .int .i64 x.2] 30)) (.cells #[.int .i64 z.1, .int .i64 z.2] 30)
    simpa using this)
  have BW := Lib.hid (show Below w.heap.size w W by
    rw [hW]; exact (((Below.refl _ _).alloc (Nat.le_refl _) _).alloc (by simp) _).alloc (by simp; omega) _)
  rw [← hW]
  clear hW
  refine region_class (fun w' => Below W.heap.size W w') (by kernel_rfl) (by kernel_rfl) (Below.refl _ _).drew ?_
  refine q_val rfl (fun w' hw' => run_load_due (x := .tmp 3) (g := w.heap.size + 0) (i := 0) (d := x) rfl rfl (row_cells (keep_row RX.out hw')).1 (row_cells (keep_row RX.out hw')).2) ?_
  simp only [Act.put, List.setIfInBounds_toArray, List.set_cons_succ, List.set_cons_zero]
  refine q_val rfl (fun w' hw' => run_load_due (x := .tmp 4) (g := w.heap.size + 1) (i := 0) (d := x) rfl rfl (row_cells (keep_row RY.out hw')).1 (row_cells (keep_row RY.out hw')).2) ?_
  simp only [Act.put, List.setIfInBounds_toArray, List.set_cons_succ, List.set_cons_zero]
  refine q_call rfl (args := #[dv x, dv x]) (fun w' hw' => run_call2 (u := dv x) (v := dv x) rfl Try.call20 rfl rfl w') (fun w' hw' => by have := class_less (Nat.le_refl _) hw' x x; rw [H1.out] at this; exact this) ?_
  simp only [Act.put, List.setIfInBounds_toArray, List.set_cons_succ, List.set_cons_zero]
  refine q_val rfl (fun w' hw' => run_load_due (x := .tmp 4) (g := w.heap.size + 1) (i := 0) (d := x) rfl rfl (row_cells (keep_row RY.out hw')).1 (row_cells (keep_row RY.out hw')).2) ?_
  simp only [Act.put, List.setIfInBounds_toArray, List.set_cons_succ, List.set_cons_zero]
  refine q_val rfl (fun w' hw' => run_load_due (x := .tmp 3) (g := w.heap.size + 0) (i := 0) (d := x) rfl rfl (row_cells (keep_row RX.out hw')).1 (row_cells (keep_row RX.out hw')).2) ?_
  simp only [Act.put, List.setIfInBounds_toArray, List.set_cons_succ, List.set_cons_zero]
  refine q_call rfl (args := #[dv x, dv x]) (fun w' hw' => run_call2 (u := dv x) (v := dv x) rfl Try.call20 rfl rfl w') (fun w' hw' => by have := class_less (Nat.le_refl _) hw' x x; rw [H2.out] at this; exact this) ?_
  simp only [Act.put, List.setIfInBounds_toArray, List.set_cons_succ, List.set_cons_zero]
  refine q_val rfl (fun w' hw' => run_load_due (x := .tmp 4) (g := w.heap.size + 1) (i := 0) (d := x) rfl rfl (row_cells (keep_row RY.out hw')).1 (row_cells (keep_row RY.out hw')).2) ?_
  simp only [Act.put, List.setIfInBounds_toArray, List.set_cons_succ, List.set_cons_zero]
  refine q_val rfl (fun w' hw' => run_load_due (x := .tmp 5) (g := w.heap.size + 2) (i := 0) (d := z) rfl rfl (row_cells (keep_row RZ.out hw')).1 (row_cells (keep_row RZ.out hw')).2) ?_
  simp only [Act.put, List.setIfInBounds_toArray, List.set_cons_succ, List.set_cons_zero]
  refine q_call rfl (args := #[dv x, dv z]) (fun w' hw' => run_call2 (u := dv x) (v := dv z) rfl Try.call20 rfl rfl w') (fun w' hw' => by have := class_less (Nat.le_refl _) hw' x z; rw [H3.out] at this; exact this) ?_
  simp only [Act.put, List.setIfInBounds_toArray, List.set_cons_succ, List.set_cons_zero]
  refine q_assign_is rfl (.tmp 12) (.bool false) rfl rfl ?_
  simp only [Act.put, List.setIfInBounds_toArray, List.set_cons_succ, List.set_cons_zero]
  refine q_assign_is rfl (.tmp 15) (.bool false) rfl rfl ?_
  simp only [Act.put, List.setIfInBounds_toArray, List.set_cons_succ, List.set_cons_zero]
  refine q_assign_is rfl (.tmp 18) (.bool false) rfl rfl ?_
  simp only [Act.put, List.setIfInBounds_toArray, List.set_cons_succ, List.set_cons_zero]
  refine wpQuiet_nil ?_
  intro w1 hw1
  have B1 := Lib.hid (BW.out.trans (hw1.mono BW.out.size))
  have QX := Lib.hid (keep_row RX.out hw1)
  have QY := Lib.hid (keep_row RY.out hw1)
  have QZ := Lib.hid (keep_row RZ.out hw1)
  clear hw1
  go_wp2_with fail
  refine (awake_any _).mono ?_
  rintro e w2 ⟨rfl, hb2⟩
  have B2 := Lib.hid (B1.out.trans (hb2.mono B1.out.size))
  obtain ⟨x1, x2, _, _⟩ := at_of_row (keep_row QX.out hb2)
  rw [Nat.add_zero] at x1 x2
  obtain ⟨y1, y2, _, _⟩ := at_of_row (keep_row QY.out hb2)
  obtain ⟨z1, z2, _, _⟩ := at_of_row (keep_row QZ.out hb2)
  clear hb2
  go_wp2
  go_ret
  exact ⟨rfl, B2.out⟩

theorem byne {P : Prop} (_w : World) (x y _z : D) (hne : ¬ x = y) (h1 : ¬ x.1 = y.1 → P) (h2 : x.1 = y.1 → ¬ x.2 = y.2 → P) : P := by
  by_cases e : x.1 = y.1
  · exact h2 e (fun e2 => hne (Prod.ext e e2))
  · exact h1 e
theorem walk_heapOrder (w : World) (x y z : D) : Calls Try.prog 4 #[dv x, dv y, dv z] w fun e w' => e = .returned (.bool true) ∧ Below w.heap.size w w' := by
  cases h1 : less x y with
  | true =>
    have hne : ¬ x = y := fun e => by rw [e, less_irrefl] at h1; cases h1
    cases h3 : less y z with
    | true => exact byne w x y z hne (fun e => order_o1a w x y z h1 (less_asymm h1) h3 (less_trans h1 h3) e) (fun e1 e2 => order_o1b w x y z h1 (less_asymm h1) h3 (less_trans h1 h3) e1 e2)
    | false => exact byne w x y z hne (fun e => order_o2a w x y z h1 (less_asymm h1) h3 e) (fun e1 e2 => order_o2b w x y z h1 (less_asymm h1) h3 e1 e2)
  | false =>
    cases h2 : less y x with
    | true =>
      have hne : ¬ x = y := fun e => by rw [e, less_irrefl] at h2; cases h2
      cases h3 : less y z with
      | true => exact byne w x y z hne (fun e => order_o3a w x y z h1 h2 h3 e) (fun e1 e2 => order_o3b w x y z h1 h2 h3 e1 e2)
      | false => exact byne w x y z hne (fun e => order_o4a w x y z h1 h2 h3 e) (fun e1 e2 => order_o4b w x y z h1 h2 h3 e1 e2)
    | false =>
      have heq := less_total h1 h2
      subst heq
      cases h3 : less x z with
      | true => exact order_o5 w x z h1 h2 h3
      | false => exact order_o6 w x z h1 h2 h3

set_option maxRecDepth 100000 in
theorem heapOrder_lifted (os : Os) (started : os.Started) (H : Type) (enc : TypeId × Value → H) :
    ReturnsInHanded {} Try.checked os 4 .any (Rows.heapOrderSpec.pre6 enc Try.prog Try.f4 Rows.heapOrderRow.domain false) (Rows.heapOrderSpec.post enc Try.prog Try.f4 false true false false) := by
  refine returnsInHanded_of_change (C := Try.checked) own started (by kernel_rfl) Try.func4
    (ChangeSpec.witness6 (enc := enc) (C := Try.checked) false ⟨#[], #[.agg #[.int .i64 0, .int .i64 0], .agg #[.int .i64 0, .int .i64 0], .agg #[.int .i64 0, .int .i64 0]], []⟩ 8 (by kernel_rfl) (by kernel_rfl) (by kernel_rfl) (by kernel_rfl)) ?_
  intro W base args ds gs before hval0 hW hcnd hsz
  have hval : ∀ (j : Nat) t v, Try.f4.params[j]? = some t → args[j]? = some v → Value.okWide Try.prog W .any base t v := hval0
  have hW' := hW
  obtain ⟨p, q, hA0, hV, rfl, hfz, hnd⟩ := hW
  have hA : DataW.TrodAll enc Try.prog W 0 (fun _ => true) true Try.f4.params.toList args.toList ds p := hA0
  rw [Try.params4] at hA hval
  obtain ⟨v0, vs0, d0, ds0, p0, q0, hargs, rfl, rfl, h0, r0⟩ := trodAll_cons hA
  obtain ⟨v1, vs1, d1, ds1, p1, q1, rfl, rfl, rfl, h1, r1⟩ := trodAll_cons r0
  obtain ⟨v2, vs2, d2, ds2, p2, q2, rfl, rfl, rfl, h2, r2⟩ := trodAll_cons r1
  obtain ⟨rfl, rfl, rfl⟩ := trodAll_nil r2
  obtain rfl : args = #[v0, v1, v2] := by cases args; simp_all
  obtain ⟨rfl, rfl⟩ := trodVars_none hV
  have k0 := h0
  have lt0 : ∀ x ∈ p0, x.block < W.heap.size := by obtain ⟨m, hm⟩ := k0; exact DataW.trod_lt m _ _ _ hm
  have k1 := h1
  have lt1 : ∀ x ∈ p1, x.block < W.heap.size := by obtain ⟨m, hm⟩ := k1; exact DataW.trod_lt m _ _ _ hm
  have k2 := h2
  have lt2 : ∀ x ∈ p2, x.block < W.heap.size := by obtain ⟨m, hm⟩ := k2; exact DataW.trod_lt m _ _ _ hm
  obtain ⟨x0, rfl⟩ := open_due (hval 0 30 v0 rfl rfl) h0
  obtain ⟨x1, rfl⟩ := open_due (hval 1 30 v1 rfl rfl) h1
  obtain ⟨x2, rfl⟩ := open_due (hval 2 30 v2 rfl rfl) h2
  clear hA0 hval0
  refine (walk_heapOrder W x0 x1 x2).mono fun e W' ⟨he, bel⟩ => ?_
  subst he
  exact ⟨_, rfl, _, _, _, [], _, [], hW', trodAll_mk1 (shut_bool Try.underlying4 _), (trodAll_cons_mk (Below.trod laidOut (by kernel_rfl) (of_decide_eq_true (by kernel_rfl)) k0 bel lt0) (trodAll_cons_mk (Below.trod laidOut (by kernel_rfl) (of_decide_eq_true (by kernel_rfl)) k1 bel lt1) (trodAll_cons_mk (Below.trod laidOut (by kernel_rfl) (of_decide_eq_true (by kernel_rfl)) k2 bel lt2) trodAll_mk0))), rfl, bel.frame _, fun h => by cases h⟩

theorem heapOrder_holds : Rows.HeapOrderSaid :=
  OpenClaim.holds_of_wide 4 Try.f4 rfl rfl rfl rfl rfl rfl rfl ⟨rfl, rfl, rfl, rfl, rfl⟩ rfl rfl rfl rfl rfl (by kernel_rfl) Try.func4 (by kernel_rfl)
    (of_decide_eq_true (by kernel_rfl)) (by unfold Func.isWrapper; first | (rw [if_pos (by decide +kernel)]; kernel_rfl) | (rw [if_neg (by decide +kernel)]; exact ⟨rfl, rfl⟩))
    (fun os started H enc _ => heapOrder_lifted os started H enc)

#print axioms heapOrder_holds
end Go.Proofs.Ytcmbmocineegoaa
