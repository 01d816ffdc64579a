/-
  The package check: within, leaf; what holds while a tree is looked at.
  Conditions: the node's keys lie between; the level is the leaves'.
-/
import Derived.Test.YtnlolhlbpdmljaaGreatDoorSlB
namespace Go.Proofs.YtnlolhlbpdmljaaGreatDoor
open Go.ChangeShapes Go.WideShapes Go.RowKit
set_option maxRecDepth 100000 in
set_option maxHeartbeats 1000000 in
theorem within_any (w : World) (v : Value) (n : PN) (lo hi : Nat) (h : NAt w v n) (h1 : 1 ≤ n.keys.length) (hk : ∀ k ∈ n.keys, lo ≤ k ∧ k < hi) (h7 : n.keys.length ≤ 7) : Calls Tryz.prog 76 #[v, .int .i64 (lo : Int), .int .i64 (hi : Int)] w fun e w' => e = .returned (.bool true) ∧ Below w.heap.size w w' := by
  obtain ⟨sK, sV, sC, rfl, r1, _, _⟩ := h
  obtain ⟨A, c, e⟩ := r1.shape
  rw [ints_length] at e
  obtain ⟨q, hq⟩ : ∃ q, n.keys.length = q + 1 := ⟨n.keys.length - 1, by omega⟩
  obtain ⟨S, hS⟩ : ∃ S, S = w.heap.size := ⟨_, rfl⟩
  obtain ⟨W1, hW1⟩ : ∃ W, W = w.alloc (.cells #[sK, sV, sC] 87) := ⟨_, rfl⟩
  have b1 : Below w.heap.size w W1 := by rw [hW1]; exact (Below.refl _ _).alloc (Nat.le_refl _) _
  have r2 := r1.below b1
  rw [e] at r2
  have AT := r2.at.2
  obtain ⟨g, o, rfl, hc0, _⟩ := AT 0 _ (ints_at (by omega))
  obtain ⟨g', o', e', hcq, _⟩ := AT q _ (ints_at (by omega))
  injection e' with e'
  injection e' with ea eb _
  subst ea eb
  obtain ⟨x, hx⟩ : ∃ y, y = n.keys[0]'(by omega) := ⟨_, rfl⟩
  obtain ⟨y, hy⟩ : ∃ y, y = n.keys[q]'(by omega) := ⟨_, rfl⟩
  rw [← hx] at hc0
  rw [← hy] at hcq
  rw [Nat.add_zero] at hc0
  have hx1 := hk x (by rw [hx]; exact List.getElem_mem _)
  have hy1 := hk y (by rw [hy]; exact List.getElem_mem _)
  have hlx : (lo : Int) ≤ (x : Int) := by omega
  have hyh : (y : Int) < (hi : Int) := by omega
  have s1 : W1.heap[S]? = some (.cells #[sK, sV, sC] 87 (0, 0)) := by rw [hW1, hS]; exact heap_alloc_new _ _
  rw [hq] at e
  have c0 : W1.cell? ⟨S, 0, none⟩ = some (.slice (some ⟨g, o, none⟩) (q + 1) c) := by rw [← e]; exact cell_of_row W1 S 0 _ 87 (0, 0) s1
  have HS := Lib.hid hS
  have HW1 := Lib.hid hW1
  have B1 := Lib.hid b1
  have hq0 : (0 : Int) < ((q + 1 : Nat) : Int) := by omega
  have hq7 : q ≤ 6 := by omega
  clear hS hW1 b1 r1 r2 AT hx hy hx1 hy1 hk s1 h7 h1 hq e
  go_enter Tryz.func76, Tryz.ntmps76
  go_upto_region 1 with fail
  rw [← HW1.out, ← HS.out]
  go_wp2
  go_ret
  exact ⟨rfl, B1.out⟩
/-- What holds while a tree is looked at. -/
structure Lk (w0 w : World) (L M P : Nat) (lev : Nat) (T : List Nat) (B d : Nat) (V : Nat → B8) (m : Nat) (s : SupT) (Fr Go : List Nat) : Prop where
  obj : w.heap[L]? = some (.cells #[.pointer (some ⟨P, 0, none⟩), .map (some M), .int .i64 (lev : Int)] 81 (0, 0))
  map : MapS w M T
  pg : PAt w B P d V m s Fr Go
  kept : Kept (fun q => q = L ∨ q = M) w0 w
section
variable {w0 w w' : World} {L M P : Nat} {lev : Nat} {T : List Nat} {B d : Nat} {V : Nat → B8} {m : Nat} {s : SupT} {Fr Go : List Nat}
theorem Lk.ne (h : Lk w0 w L M P lev T B d V m s Fr Go) : L ≠ M := by
  intro e
  obtain ⟨es, c, hm⟩ := h.map.obj
  have := h.obj
  rw [e, hm] at this
  injection this with this
  cases this
theorem Lk.moved (h : Lk w0 w L M P lev T B d V m s Fr Go) {lev' : Nat} {T' : List Nat} (ho : w'.heap[L]? = some (.cells #[.pointer (some ⟨P, 0, none⟩), .map (some M), .int .i64 (lev' : Int)] 81 (0, 0))) (hm : MapS w' M T') (k : Kept (fun q => q = L ∨ q = M) w w') : Lk w0 w' L M P lev' T' B d V m s Fr Go :=
  ⟨ho, hm, h.pg.moved (fun q cs t hq ht => k.block q (row_lt hq) (fun e => by
    rcases e with rfl | rfl
    · have := h.obj; rw [hq] at this; injection this with this; injection this with _ this _; subst this; cases ht
    · obtain ⟨es, c, hm⟩ := h.map.obj
      rw [hm] at hq; injection hq with hq; cases hq)), h.kept.trans k (fun _ _ h => h) (fun _ _ h => h)⟩
theorem Lk.below (h : Lk w0 w L M P lev T B d V m s Fr Go) (b : Below w.heap.size w w') : Lk w0 w' L M P lev T B d V m s Fr Go :=
  h.moved ((b.block L (row_lt h.obj)).trans h.obj) (h.map.below b) (Kept.of_below b _)
theorem Lk.then (h : Lk w0 w L M P lev T B d V m s Fr Go) {lev' : Nat} {T' : List Nat} (k : Lk w w' L M P lev' T' B d V m s Fr Go) : Lk w0 w' L M P lev' T' B d V m s Fr Go :=
  h.moved k.obj k.map k.kept
theorem Lk.self (h : Lk w0 w L M P lev T B d V m s Fr Go) : Lk w w L M P lev T B d V m s Fr Go := ⟨h.obj, h.map, h.pg, Kept.refl _ _⟩
theorem Lk.put (h : Lk w0 w L M P lev T B d V m s Fr Go) {T' : List Nat} (hm : MapS w' M T') (hg : w.grownBy w' (some M)) : Lk w0 w' L M P lev T' B d V m s Fr Go :=
  h.moved ((hg.block L (row_lt h.obj) (fun e => h.ne (by injection e))).trans h.obj) hm ⟨hg.os, hg.tape, hg.output, hg.size, fun q hq hn => hg.block q hq (fun e => hn (.inr (by injection e)))⟩
theorem Lk.level (h : Lk w0 w L M P lev T B d V m s Fr Go) (lev' : Nat) : Lk w0 (w.setCell ⟨L, 2, none⟩ (.int .i64 (lev' : Int))) L M P lev' T B d V m s Fr Go := by
  have ho : ∀ q, q ≠ L → (w.setCell ⟨L, 2, none⟩ (.int .i64 (lev' : Int))).heap[q]? = w.heap[q]? := fun q hq => heap_setCell_other w ⟨L, 2, none⟩ q _ hq
  refine h.moved (heap_setCell_row h.obj _) (h.map.kept (ho M (Ne.symm h.ne))) ⟨rfl, rfl, rfl, by rw [setCell_size]; exact Nat.le_refl _, fun q _ hn => ho q (fun e => hn (.inl e))⟩
/-- A row of another type is as it was. -/
theorem Lk.row (h : Lk w0 w L M P lev T B d V m s Fr Go) {lev' : Nat} {T' : List Nat} (k : Lk w w' L M P lev' T' B d V m s Fr Go) {g : Nat} {cs : Array Value} {t : TypeId} (hg : w.heap[g]? = some (.cells cs t (0, 0))) (ht : t ≠ 81) : w'.heap[g]? = some (.cells cs t (0, 0)) :=
  (k.kept.block g (row_lt hg) (fun e => by
    rcases e with rfl | rfl
    · have := h.obj; rw [hg] at this; injection this with this; injection this with _ this _; exact ht this
    · obtain ⟨es, c, hm⟩ := h.map.obj
      rw [hm] at hg; injection hg with hg; cases hg)).trans hg
end
section
variable {ρ : Operand → Value} {o : Oper}
theorem run_fld81_0 {x : Operand} (ho : o.op = .fieldAddr 81 x 0) {d : Nat} (hx : ρ x = .pointer (some ⟨d, 0, none⟩)) (w : World) : (execOp ρ o).run Tryz.prog w = .ok (.value (.pointer (some ⟨d, 0, none⟩))) w := by
  unfold execOp; rw [ho]; simp [hx, go_sem]
theorem run_fld81_1 {x : Operand} (ho : o.op = .fieldAddr 81 x 1) {d : Nat} (hx : ρ x = .pointer (some ⟨d, 0, none⟩)) (w : World) : (execOp ρ o).run Tryz.prog w = .ok (.value (.pointer (some ⟨d, 1, none⟩))) w := by
  unfold execOp; rw [ho]; simp [hx, go_sem]
theorem run_fld81_2 {x : Operand} (ho : o.op = .fieldAddr 81 x 2) {d : Nat} (hx : ρ x = .pointer (some ⟨d, 0, none⟩)) (w : World) : (execOp ρ o).run Tryz.prog w = .ok (.value (.pointer (some ⟨d, 2, none⟩))) w := by
  unfold execOp; rw [ho]; simp [hx, go_sem]
end
set_option maxRecDepth 100000 in
set_option maxHeartbeats 1000000 in
theorem look_leaf {w : World} {L M P : Nat} {lev : Nat} {T : List Nat} {B d : Nat} {V : Nat → B8} {m : Nat} {s : SupT} {Fr Go : List Nat} (h : Lk w w L M P lev T B d V m s Fr Go) (depth : Nat) (hl : lev = 0 ∨ lev = depth) : Calls Tryz.prog 77 #[.pointer (some ⟨L, 0, none⟩), .int .i64 (depth : Int)] w fun e w' => e = .returned .nilIface ∧ Lk w w' L M P depth T B d V m s Fr Go := by
  have c0 : w.cell? ⟨L, 2, none⟩ = some (.int .i64 (lev : Int)) := cell_of_row w L 2 _ 81 (0, 0) h.obj
  have NX := Lib.hid (h.level depth)
  have HO := Lib.hid h.obj
  obtain ⟨w1, hw1⟩ : ∃ u, u = w.setCell ⟨L, 2, none⟩ (.int .i64 (depth : Int)) := ⟨_, rfl⟩
  rw [← hw1] at NX
  have HW := Lib.hid hw1.symm
  clear h hw1
  by_cases h0 : lev = 0
  · subst h0
    clear hl
    go_enter Tryz.func77, Tryz.ntmps77
    go_upto_region 3 with fail
    refine wp_region_lit ?_
    refine l_is (.move (.tmp 0)) rfl rfl (run_move_is (.tmp 0) (.pointer (some ⟨L, 0, none⟩)) rfl rfl _) ?_
    simp only [Act.put, List.setIfInBounds_toArray, List.set_cons_succ, List.set_cons_zero]
    refine l_is (.move (.tmp 1)) rfl rfl (run_move_is (.tmp 1) (.int .i64 (depth : Int)) rfl rfl _) ?_
    simp only [Act.put, List.setIfInBounds_toArray, List.set_cons_succ, List.set_cons_zero]
    refine l_is (.nilCheck (.tmp 19)) rfl rfl (run_nilc (x := .tmp 19) (a := ⟨L, 0, none⟩) rfl rfl _) ?_
    simp only [Act.put, List.setIfInBounds_toArray, List.set_cons_succ, List.set_cons_zero]
    refine l_is (.fieldAddr 81 (.tmp 21) 2) rfl rfl (run_fld81_2 (x := .tmp 21) (d := L) rfl rfl _) ?_
    simp only [Act.put, List.setIfInBounds_toArray, List.set_cons_succ, List.set_cons_zero]
    refine l_skp (w' := w1) (.store 3 (.tmp 22) (.tmp 20)) rfl rfl rfl (by rw [← HW.out]; exact run_store_c1 size3' (x := .tmp 22) (y := .tmp 20) rfl rfl rfl rfl HO.out (Nat.succ_lt_succ (Nat.succ_lt_succ (Nat.zero_lt_succ _)))) ?_
    go_wp2_with fail
    go_ret
    exact ⟨rfl, NX.out⟩
  · have h1 : lev = depth := hl.resolve_left h0
    subst h1
    clear hl
    go_enter Tryz.func77, Tryz.ntmps77
    go_upto_region 3 with fail
    refine wp_region_lit ?_
    refine l_is (.move (.tmp 0)) rfl rfl (run_move_is (.tmp 0) (.pointer (some ⟨L, 0, none⟩)) rfl rfl _) ?_
    simp only [Act.put, List.setIfInBounds_toArray, List.set_cons_succ, List.set_cons_zero]
    refine l_is (.move (.tmp 1)) rfl rfl (run_move_is (.tmp 1) (.int .i64 (lev : Int)) rfl rfl _) ?_
    simp only [Act.put, List.setIfInBounds_toArray, List.set_cons_succ, List.set_cons_zero]
    refine l_is (.nilCheck (.tmp 19)) rfl rfl (run_nilc (x := .tmp 19) (a := ⟨L, 0, none⟩) rfl rfl _) ?_
    simp only [Act.put, List.setIfInBounds_toArray, List.set_cons_succ, List.set_cons_zero]
    refine l_is (.fieldAddr 81 (.tmp 21) 2) rfl rfl (run_fld81_2 (x := .tmp 21) (d := L) rfl rfl _) ?_
    simp only [Act.put, List.setIfInBounds_toArray, List.set_cons_succ, List.set_cons_zero]
    refine l_skp (w' := w1) (.store 3 (.tmp 22) (.tmp 20)) rfl rfl rfl (by rw [← HW.out]; exact run_store_c1 size3' (x := .tmp 22) (y := .tmp 20) rfl rfl rfl rfl HO.out (Nat.succ_lt_succ (Nat.succ_lt_succ (Nat.zero_lt_succ _)))) ?_
    go_wp2_with fail
    go_ret
    exact ⟨rfl, NX.out⟩
end Go.Proofs.YtnlolhlbpdmljaaGreatDoor
