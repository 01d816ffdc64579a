/-
  The pager's Abort and Commit. pager.Format of a disk that was never written.
  Conditions: none.
-/
import Derived.Test.YtnlolhlbpdmljaaGreatDoorPgrD
namespace Go.Proofs.YtnlolhlbpdmljaaGreatDoor
open Go.ChangeShapes Go.WideShapes Go.RowKit
theorem zeros5 : (Builtin.zeroCells (Value.int .u8 0).cells 30).toList = bvl E30 := by kernel_rfl
/-- clear, on thirty bytes. -/
theorem run_clear30 (w : World) {ty : TypeId} (b o c : Nat) (ht : w.there b o 30) : (Builtin.clear_ #[94] ty #[.slice (some ⟨b, o, none⟩) 30 c]).run Tryz.prog w = .ok (.tuple #[]) (w.setCells b o (bvl E30)) := by
  have hst := run_storeCells_cells (P := Tryz.prog) b o (bvl E30) 0 w (by intro j hj; simpa using (ht j (by simpa [bvl, E30] using hj)).1) (by intro j hj; simpa using (ht j (by simpa [bvl, E30] using hj)).2) (by
    intro v hv
    unfold bvl E30 at hv
    simp at hv
    subst hv; rfl)
  simp only [Nat.add_zero] at hst
  simp [Builtin.clear_, run_underlying Tryz.underlying94, zeros5, hst]
theorem run_slice50at {ρ : Operand → Value} {o : Oper} {x : Operand} (ho : o.op = .slice 50 x none none none) {g k : Nat} (hx : ρ x = .pointer (some ⟨g, k, none⟩)) (w : World) : (execOp ρ o).run Tryz.prog w = .ok (.value (.slice (some ⟨g, k, none⟩) 30 30)) w := by
  unfold execOp; rw [ho]; simp [hx, go_sem]
section
variable {w : World} {P d : Nat} {s : SupT} {Fr Go : List Nat}
theorem pg_set_sup (h : w.heap[P]? = some (.cells (pgl d s Fr Go).toArray 69 (0, 0))) (hu : Set30 s.2.2) (hf : Set30 Fr) (hg : Set30 Go) {s' : SupT} (hu' : Set30 s'.2.2) : (w.setCells P 1 (sul s')).heap[P]? = some (.cells (pgl d s' Fr Go).toArray 69 (0, 0)) := by
  rw [setCells_exact (sul s') 1 w (pgl d s Fr Go) (by rw [pg_len hu hf hg, sul_length hu']; omega) h]
  refine congrArg (fun l : List Value => some (Obj.cells l.toArray 69 (0, 0))) ?_
  have l1 : ([.pointer (some ⟨d, 0, none⟩)] : List Value).length = 1 := rfl
  unfold pgl
  rw [List.take_left' l1, sul_length hu', show 1 + 32 = 1 + (sul s).length by rw [sul_length hu], ← List.drop_drop, List.drop_left' l1, List.drop_left' rfl]
  simp
end
set_option maxRecDepth 100000 in
set_option maxHeartbeats 1000000 in
theorem abort_any {w : World} {B P d : Nat} {V : Nat → B8} {n : Nat} {s : SupT} {Fr Go : List Nat} (h : PAt w B P d V n s Fr Go) :
    Calls Tryz.prog 31 #[.pointer (some ⟨P, 0, none⟩)] w fun e w' => e = .returned (.tuple #[]) ∧ PAt w' B P d V n s E30 E30 ∧ KT B isPg w w' := by
  obtain ⟨W1, hW1⟩ : ∃ W, W = w.setCells P 33 (bvl E30) := ⟨_, rfl⟩
  have p1 : W1.heap[P]? = some (.cells (pgl d s E30 Go).toArray 69 (0, 0)) := by rw [hW1]; exact pg_set_fresh h.obj h.su h.sf h.sg E30_set
  have d1 : Dsk W1 B d V n := by rw [hW1]; exact h.dsk.kept (setCells_kept _ _ _ _) h.obj
  have k1 : KT B isPg w W1 := by rw [hW1]; exact kt_setCells h.obj h.low rfl _
  have r1 := run_clear30 w (ty := 0) P 33 30 (pg_there h.obj h.su h.sf h.sg 33 30 (by omega))
  have P0 := Lib.hid h.obj
  have P1 := Lib.hid p1
  have T0 := Lib.hid (pg_there h.obj h.su h.sf h.sg 33 30 (by omega))
  have T1 := Lib.hid (pg_there p1 h.su E30_set h.sg 63 30 (by omega))
  have HH := Lib.hid h
  have HW1 := Lib.hid hW1
  have D1 := Lib.hid d1
  have K1 := Lib.hid k1
  clear h p1 d1 k1 r1 hW1
  go_enter Tryz.func31, Tryz.ntmps31
  go_wp2_with (first | (refine l_is (.slice 50 (.tmp 6) none none none) rfl rfl (run_slice50at (x := .tmp 6) rfl rfl _) ?_) | (refine l_is (.slice 50 (.tmp 10) none none none) rfl rfl (run_slice50at (x := .tmp 10) rfl rfl _) ?_) | (refine l_run rfl (run_clear_op (x := .tmp 7) rfl rfl (run_clear30 _ _ _ _ T0.out)) ?_; rw [← HW1.out]) | (refine l_run rfl (run_clear_op (x := .tmp 11) rfl rfl (run_clear30 _ _ _ _ T1.out)) ?_))

  exact bodyPost_end (results_none rfl _ _ _) rfl ⟨rfl, ⟨pg_set_gone P1.out HH.out.su E30_set HH.out.sg E30_set, D1.out.kept (setCells_kept _ _ _ _) P1.out, HH.out.su, E30_set, E30_set, HH.out.low⟩, K1.out.trans (kt_setCells P1.out HH.out.low rfl _)⟩
theorem run_add_u32 {ρ : Operand → Value} {o : Oper} {x y : Operand} (ho : o.op = .binOp .add 44 x y 44) {a b r : Int} (hx : ρ x = .int .u32 a) (hy : ρ y = .int .u32 b) (hr : IntKind.u32.wrap (a + b) = r) (w : World) : (execOp ρ o).run Tryz.prog w = .ok (.value (.int .u32 r)) w := by
  unfold execOp
  rw [ho]
  simp [hx, hy, go_sem, eqGuard, hr]
set_option maxRecDepth 100000 in
set_option maxHeartbeats 2000000 in
theorem commit_any {w : World} {B P d : Nat} {V : Nat → B8} {n : Nat} {s : SupT} {Fr Go : List Nat} (h : PAt w B P d V n s Fr Go) (r : Nat) (hg : s.1 + 1 < 4294967295) (h2 : 2 ≤ r) (hr : r < 240) (hm : mem (usedP s.2.2 Fr Go) r = true) (h0 : mem (usedP s.2.2 Fr Go) 0 = false) (h1 : mem (usedP s.2.2 Fr Go) 1 = false) :
    Calls Tryz.prog 13 #[.pointer (some ⟨P, 0, none⟩), .int .i64 (r : Int)] w fun e w' => e = .returned .nilIface ∧ PAt w' B P d (upd V ((s.1 + 1) % 2) (laidP 1 (slay (s.1 + 1) r (usedP s.2.2 Fr Go)))) 0 (s.1 + 1, r, usedP s.2.2 Fr Go) E30 E30 ∧ KT B isPg w w' := by
  obtain ⟨N, hN⟩ : ∃ N, N = usedP s.2.2 Fr Go := ⟨_, rfl⟩
  have USED := Lib.hid (used_any h)
  have NU := Lib.hid (usedP_set (Go := Go) h.su h.sf)
  rw [← hN] at hm h0 h1 USED NU
  rw [← hN]
  have SOK := Lib.hid (show SOk (s.1 + 1) r N from ⟨NU.out, by omega, by omega, .inr ⟨h2, hr, hm⟩, h0, h1⟩)
  have HH := Lib.hid h
  have SU := Lib.hid h.su
  have SF := Lib.hid h.sf
  have SG := Lib.hid h.sg
  have HASN := Lib.hid (fun w => has_any N (r : Int) w NU.out)
  rw [show hasP N (r : Int) = true by rw [hasP_nat hr]; exact hm] at HASN
  have hne : ((r : Int) != 0) = true := by rw [bne_iff_ne]; omega
  have hne2 : ¬ r = 0 := by omega
  have hge : ((s.1 : Int) == 4294967295) = false := by rw [beq_eq_false_iff_ne]; omega
  have HADD := Lib.hid (show IntKind.u32.wrap ((s.1 : Int) + 1) = ((s.1 + 1 : Nat) : Int) by unfold IntKind.wrap; simp [IntKind.signed, IntKind.bits]; omega)
  clear h h2 hr hm h0 h1 hg hN
  go_enter Tryz.func13, Tryz.ntmps13
  go_wp2_with fail
  refine (pnone_any P w).mono ?_
  rintro e w1 ⟨rfl, rfl⟩
  go_wp2_with fail
  refine USED.out.mono ?_
  rintro e w2 ⟨rfl, hb2⟩
  obtain ⟨X, hX⟩ : ∃ X, X = w2.heap.size := ⟨_, rfl⟩
  obtain ⟨W3, hW3⟩ : ∃ W, W = w2.alloc (.cells L50 50) := ⟨_, rfl⟩
  obtain ⟨W4, hW4⟩ : ∃ W, W = W3.setRow X (Bv N) := ⟨_, rfl⟩
  have x3 : W3.heap[X]? = some (.cells Z30 50 (0, 0)) := by rw [hW3, hX, ← L50_eq]; exact heap_alloc_new _ _
  have X3 := Lib.hid x3
  have X4 := Lib.hid (show W4.heap[X]? = some (.cells (Bv N) 50 (0, 0)) by rw [hW4]; exact setRow_has x3)
  have B4 := Lib.hid (show Below w.heap.size w W4 from hb2.trans (by rw [hW4]; exact below_setRow (by rw [hW3]; exact (Below.refl _ _).alloc hb2.size _) (by rw [hX]; exact hb2.size) _))
  have XG := Lib.hid (show w.heap.size ≤ X by rw [hX]; exact hb2.size)
  have HX := Lib.hid hX
  have HW3 := Lib.hid hW3
  have HW4 := Lib.hid hW4.symm
  clear hb2 hX hW3 hW4 x3
  go_upto_region 9 with (first | (go_at_call 17; refine (HASN.out _).mono ?_; rintro e w5 ⟨rfl, hb5⟩; have B5 := Lib.hid (B4.out.trans (hb5.mono B4.out.size)); have X5 := Lib.hid ((hb5.block X (row_lt X4.out)).trans X4.out); have P5 := Lib.hid (HH.out.below B5.out); obtain ⟨c0, c1, c2⟩ := pg_cells P5.out.obj; clear hb5) | (rw [← HW3.out, ← HX.out]; refine wpList_store_row rfl 50 (.tmp 6) (.tmp 15) rfl X (Bv N) rfl rfl 50 Z30 X3.out (by rw [Bv_sz NU.out]; exact size50) (by rw [Bv_sz NU.out]; rfl) (Bv_one _) ?_; rw [HW4.out]) | (refine l_is (.load 50 (.tmp 6)) rfl (want_is 2 19 true true true rfl rfl rfl rfl) (run_load_agg (x := .tmp 6) rfl rfl X4.out Tryz.underlying50 rfl (by rw [Bv_sz NU.out]; exact size50)) ?_))
  obtain ⟨w6, hw6⟩ : ∃ u, u = w5.drew := ⟨_, rfl⟩
  have HD6 := Lib.hid hw6.symm
  have X6 := Lib.hid (show w6.heap[X]? = some (.cells (Bv N) 50 (0, 0)) by rw [hw6]; exact X5.out)
  have B6 := Lib.hid (show Below w.heap.size w w6 by rw [hw6]; exact B5.out.drew)
  have P6 := Lib.hid (HH.out.below B6.out)
  have CC := Lib.hid (And.intro P6.out.obj X6.out)
  obtain ⟨Y, hY⟩ : ∃ Y, Y = w6.heap.size := ⟨_, rfl⟩
  obtain ⟨W7, hW7⟩ : ∃ W, W = w6.alloc (.cells (sv 0 0 E30) 52) := ⟨_, rfl⟩
  obtain ⟨W8, hW8⟩ : ∃ W, W = W7.setRow Y (sv (s.1 + 1) r N) := ⟨_, rfl⟩
  have y7 : W7.heap[Y]? = some (.cells (sv 0 0 E30) 52 (0, 0)) := by rw [hW7, hY]; exact heap_alloc_new _ _
  have Y7 := Lib.hid y7
  have b7 : Below w6.heap.size w6 W7 := by rw [hW7]; exact (Below.refl _ _).alloc (Nat.le_refl _) _
  have b8 : Below w6.heap.size w6 W8 := by rw [hW8]; exact below_setRow b7 (by rw [hY]; exact Nat.le_refl _) _
  have C7 := Lib.hid (show W7.heap[P]? = some (.cells (pgl d s Fr Go).toArray 69 (0, 0)) ∧ W7.heap[X]? = some (.cells (Bv N) 50 (0, 0)) from ⟨(b7.block P (row_lt CC.out.1)).trans CC.out.1, (b7.block X (row_lt CC.out.2)).trans CC.out.2⟩)
  have C8 := Lib.hid (show W8.heap[P]? = some (.cells (pgl d s Fr Go).toArray 69 (0, 0)) ∧ W8.heap[X]? = some (.cells (Bv N) 50 (0, 0)) from ⟨(b8.block P (row_lt CC.out.1)).trans CC.out.1, (b8.block X (row_lt CC.out.2)).trans CC.out.2⟩)
  have Y8 := Lib.hid (show W8.heap[Y]? = some (.cells (sv (s.1 + 1) r N) 52 (0, 0)) by rw [hW8]; exact setRow_has y7)
  have B8 := Lib.hid (B6.out.trans (b8.mono B6.out.size))
  have RA := Lib.hid (fun (ρ : Operand → Value) (o : Oper) (ho : o.op = .alloc 52) => by
    have h := run_alloc52 (ρ := ρ) ho w6
    rw [← hW7, ← hY] at h
    exact h)
  have HW8 := Lib.hid hW8.symm
  have Z32 := Lib.hid (sv_size (gen := 0) (root := 0) E30_set)
  have S32 := Lib.hid (sv_size (gen := s.1 + 1) (root := r) NU.out)
  clear hw6 hY hW7 hW8 y7 b7 b8 c0 c1 c2
  refine g_region (fun w' => w'.heap[P]? = some (.cells (pgl d s Fr Go).toArray 69 (0, 0)) ∧ w'.heap[X]? = some (.cells (Bv N) 50 (0, 0))) 11 rfl (by kernel_rfl) ?_
  rw [HD6.out]
  refine g_take 0 rfl (some 36) rfl (by kernel_rfl) (by kernel_rfl) (by kernel_rfl) (fun _ _ _ h => h) rfl (fun w' hw' => run_move_is (.tmp 0) (.pointer (some ⟨P, 0, none⟩)) rfl rfl w') CC.out ?_
  simp only [Act.put, List.setIfInBounds_toArray, List.set_cons_succ, List.set_cons_zero]
  refine g_take 1 rfl (some 37) rfl (by kernel_rfl) (by kernel_rfl) (by kernel_rfl) (fun _ _ _ h => h) rfl (fun w' hw' => run_nilc (x := .tmp 36) (a := ⟨P, 0, none⟩) rfl rfl w') CC.out ?_
  simp only [Act.put, List.setIfInBounds_toArray, List.set_cons_succ, List.set_cons_zero]
  refine g_take 2 rfl (some 38) rfl (by kernel_rfl) (by kernel_rfl) (by kernel_rfl) (fun _ _ _ h => h) rfl (fun w' hw' => run_fld69_1 (x := .tmp 37) (d := P) rfl rfl w') CC.out ?_
  simp only [Act.put, List.setIfInBounds_toArray, List.set_cons_succ, List.set_cons_zero]
  refine g_take 3 rfl (some 39) rfl (by kernel_rfl) (by kernel_rfl) (by kernel_rfl) (fun _ _ _ h => h) rfl (fun w' hw' => run_fld52i_0 (x := .tmp 38) (d := P) rfl rfl w') CC.out ?_
  simp only [Act.put, List.setIfInBounds_toArray, List.set_cons_succ, List.set_cons_zero]
  refine g_take 4 rfl (some 40) rfl (by kernel_rfl) (by kernel_rfl) (by kernel_rfl) (fun _ _ _ h => h) rfl (fun w' hw' => run_load_int (x := .tmp 39) rfl Tryz.underlying44 rfl (pg_cells hw'.1).2.1) CC.out ?_
  simp only [Act.put, List.setIfInBounds_toArray, List.set_cons_succ, List.set_cons_zero]
  refine g_take 5 rfl (some 41) rfl (by kernel_rfl) (by kernel_rfl) (by kernel_rfl) (fun _ _ _ h => h) rfl (fun w' hw' => run_add_u32 (x := .tmp 40) (y := .const (.int .u32 1)) rfl rfl rfl HADD.out w') CC.out ?_
  simp only [Act.put, List.setIfInBounds_toArray, List.set_cons_succ, List.set_cons_zero]
  refine g_take 6 rfl (some 42) rfl (by kernel_rfl) (by kernel_rfl) (by kernel_rfl) (fun _ _ _ h => h) rfl (fun w' hw' => run_move_is (.tmp 1) (.int .i64 (r : Int)) rfl rfl w') CC.out ?_
  simp only [Act.put, List.setIfInBounds_toArray, List.set_cons_succ, List.set_cons_zero]
  refine g_take 7 rfl (some 43) rfl (by kernel_rfl) (by kernel_rfl) (by kernel_rfl) (fun _ _ _ h => h) rfl (fun w' hw' => run_load_agg (x := .tmp 6) rfl rfl hw'.2 Tryz.underlying50 rfl (by rw [Bv_sz NU.out]; exact size50)) CC.out ?_
  simp only [Act.put, List.setIfInBounds_toArray, List.set_cons_succ, List.set_cons_zero]
  refine g_take 8 rfl (some 44) rfl (by kernel_rfl) (by kernel_rfl) (by kernel_rfl) (fun _ _ _ h => h) rfl (fun w' hw' => run_build52 (x := .tmp 41) (y := .tmp 42) (z := .tmp 43) rfl NU.out rfl rfl rfl w') CC.out ?_
  simp only [Act.put, List.setIfInBounds_toArray, List.set_cons_succ, List.set_cons_zero]
  refine g_one 9 (by kernel_rfl) ?_
  refine g_val rfl (some 7) rfl rfl (RA.out _ _ rfl) C7.out ?_
  simp only [Act.put, List.setIfInBounds_toArray, List.set_cons_succ, List.set_cons_zero]
  refine g_one 10 (by kernel_rfl) ?_
  refine g_skp (w' := W8) rfl rfl rfl (by rw [← HW8.out]; exact run_store_row52 (x := .tmp 7) (y := .tmp 44) rfl rfl rfl Y7.out Z32.out S32.out (sv_one _ _ _)) C8.out ?_
  refine g_done (by kernel_rfl) ?_
  go_upto_region 10 with fail
  obtain ⟨w9, hw9⟩ : ∃ u, u = W8.drew := ⟨_, rfl⟩
  have HD9 := Lib.hid hw9.symm
  have Y9 := Lib.hid (show w9.heap[Y]? = some (.cells (sv (s.1 + 1) r N) 52 (0, 0)) by rw [hw9]; exact Y8.out)
  have B9 := Lib.hid (show Below w.heap.size w w9 by rw [hw9]; exact B8.out.drew)
  have P9 := Lib.hid (HH.out.below B9.out)
  have CD := Lib.hid (And.intro P9.out.obj Y9.out)
  have SW := Lib.hid (switch_any P9.out.dsk (s.1 + 1, r, N) SOK.out)
  clear hw9
  refine g_region (fun w' => w'.heap[P]? = some (.cells (pgl d s Fr Go).toArray 69 (0, 0)) ∧ w'.heap[Y]? = some (.cells (sv (s.1 + 1) r N) 52 (0, 0))) 7 rfl (by kernel_rfl) ?_
  rw [HD9.out]
  refine g_take 0 rfl (some 45) rfl (by kernel_rfl) (by kernel_rfl) (by kernel_rfl) (fun _ _ _ h => h) rfl (fun w' hw' => run_move_is (.tmp 0) (.pointer (some ⟨P, 0, none⟩)) rfl rfl w') CD.out ?_
  simp only [Act.put, List.setIfInBounds_toArray, List.set_cons_succ, List.set_cons_zero]
  refine g_take 1 rfl (some 46) rfl (by kernel_rfl) (by kernel_rfl) (by kernel_rfl) (fun _ _ _ h => h) rfl (fun w' hw' => run_nilc (x := .tmp 45) (a := ⟨P, 0, none⟩) rfl rfl w') CD.out ?_
  simp only [Act.put, List.setIfInBounds_toArray, List.set_cons_succ, List.set_cons_zero]
  refine g_take 2 rfl (some 47) rfl (by kernel_rfl) (by kernel_rfl) (by kernel_rfl) (fun _ _ _ h => h) rfl (fun w' hw' => run_fld69_0 (x := .tmp 46) (d := P) rfl rfl w') CD.out ?_
  simp only [Act.put, List.setIfInBounds_toArray, List.set_cons_succ, List.set_cons_zero]
  refine g_take 3 rfl (some 48) rfl (by kernel_rfl) (by kernel_rfl) (by kernel_rfl) (fun _ _ _ h => h) rfl (fun w' hw' => run_load_ptr (x := .tmp 47) rfl rfl (pg_cells hw'.1).1) CD.out ?_
  simp only [Act.put, List.setIfInBounds_toArray, List.set_cons_succ, List.set_cons_zero]
  refine g_take 4 rfl (some 49) rfl (by kernel_rfl) (by kernel_rfl) (by kernel_rfl) (fun _ _ _ h => h) rfl (fun w' hw' => run_ld_sup (x := .tmp 7) rfl rfl NU.out hw'.2) CD.out ?_
  simp only [Act.put, List.setIfInBounds_toArray, List.set_cons_succ, List.set_cons_zero]
  refine g_one 5 (by kernel_rfl) ?_
  refine g_call rfl (some 50) rfl rfl (run_call2 (u := .pointer (some ⟨d, 0, none⟩)) (v := .agg (svT (s.1 + 1, r, N))) rfl Tryz.call21 rfl rfl _) SW.out ?_
  rintro e w10 ⟨rfl, hd10, hk10⟩
  have D10 := Lib.hid hd10
  have K10 := Lib.hid ((KT.of_below B9.out B isPg).trans (hk10.more (fun t => isPg_disk)))
  have p10 := hk10.cells CD.out.1 rfl
  have C10 := Lib.hid (And.intro p10 (hk10.cells CD.out.2 rfl))
  clear hd10 hk10 p10
  refine ⟨_, rfl, C10.out, ?_⟩
  simp only [Act.put, List.setIfInBounds_toArray, List.set_cons_succ, List.set_cons_zero]
  refine g_take 6 rfl (some 8) rfl (by kernel_rfl) (by kernel_rfl) (by kernel_rfl) (fun _ _ _ h => h) rfl (fun w' hw' => run_assign_is (.tmp 50) (.nilIface) rfl rfl w') C10.out ?_
  simp only [Act.put, List.setIfInBounds_toArray, List.set_cons_succ, List.set_cons_zero]
  refine g_done (by kernel_rfl) ?_
  obtain ⟨W11, hW11⟩ : ∃ W, W = w10.setCells P 1 (sul (s.1 + 1, r, N)) := ⟨_, rfl⟩
  have P11 := Lib.hid (show PAt W11 B P d (upd V ((s.1 + 1) % 2) (laidP 1 (slay (s.1 + 1) r N))) 0 (s.1 + 1, r, N) Fr Go from ⟨by rw [hW11]; exact pg_set_sup C10.out.1 SU.out SF.out SG.out NU.out, by rw [hW11]; exact D10.out.kept (setCells_kept _ _ _ _) C10.out.1, NU.out, SF.out, SG.out, HH.out.low⟩)
  have K11 := Lib.hid (show KT B isPg w W11 by rw [hW11]; exact K10.out.trans (kt_setCells C10.out.1 HH.out.low rfl _))
  have HW11 := Lib.hid hW11.symm
  clear hW11
  go_wp2_with (first | (go_at_call 31; refine (abort_any P11.out).mono ?_; rintro e w12 ⟨rfl, hp12, hk12⟩; have P12 := Lib.hid hp12; have K12 := Lib.hid (K11.out.trans hk12); clear hp12 hk12) | (refine l_is (.load 52 (.tmp 7)) rfl rfl (run_ld_sup (x := .tmp 7) rfl rfl NU.out C10.out.2) ?_) | (refine wpList_store_mid rfl 52 (.tmp 57) (.tmp 55) rfl P 1 (sv (s.1 + 1) r N) rfl rfl (by rw [S32.out]; exact pg_there C10.out.1 SU.out SF.out SG.out 1 32 (by omega)) (by rw [S32.out]; exact size52) (sv_one _ _ _) ?_; rw [show (sv (s.1 + 1) r N).toList = sul (s.1 + 1, r, N) from rfl, HW11.out]))
  go_ret
  exact ⟨rfl, P12.out, K12.out⟩
end Go.Proofs.YtnlolhlbpdmljaaGreatDoor
namespace Go.Proofs.YtnlolhlbpdmljaaGreatDoor
open Go.ChangeShapes Go.WideShapes Go.RowKit
def z69 : List Value := .pointer none :: (sul zT ++ (bvl E30 ++ bvl E30))
theorem info69 : (Tryz.prog.info? 69).map (fun i => (i.zero, i.size, i.bytes)) = some (some (.agg z69.toArray), 93, 120) := by kernel_rfl
theorem run_build69 {ρ : Operand → Value} {o : Oper} {x y : Operand} (ho : o.op = .build 69 #[(0, x), (1, y)]) {d : Nat} {s : SupT} (hU : Set30 s.2.2) (hx : ρ x = .pointer (some ⟨d, 0, none⟩)) (hy : ρ y = .agg (svT s)) (w : World) : (execOp ρ o).run Tryz.prog w = .ok (.value (.agg (pgl d s E30 E30).toArray)) w := by
  obtain ⟨i0, hi0, hz0, hz1, hz2⟩ := info_parts info69
  have hs : (svT s).size = 32 := svT_size hU
  have hzl : z69.length = 93 := by kernel_rfl
  have hb : Array.foldl (fun cs (x : Value × Nat) => cs.setIfInBounds (1 + x.snd) x.fst) (z69.toArray.setIfInBounds 0 (.pointer (some ⟨d, 0, none⟩))) (svT s).zipIdx 0 32 = (pgl d s E30 E30).toArray := by
    have e : (svT s).zipIdx = ((sul s).zipIdx 0).toArray := by unfold svT sv sul; simp
    rw [e, List.foldl_toArray' (h := by simp [sul_length hU])]
    obtain ⟨h1, h2⟩ := fold_set (sul s) 1 0 (z69.toArray.setIfInBounds 0 (.pointer (some ⟨d, 0, none⟩)))
    have hz32 : (z69.toArray.setIfInBounds 0 (.pointer (some ⟨d, 0, none⟩))).size = 93 := by rw [Array.size_setIfInBounds, List.size_toArray, hzl]
    rw [hz32] at h1
    apply Array.ext_getElem?
    intro j
    by_cases hj : j < 93
    · rw [h2 j (by rw [hz32]; exact hj), sul_length hU]
      unfold pgl
      match j with
      | 0 => rfl
      | j + 1 =>
        by_cases hj2 : j < 32
        · rw [if_pos (by omega), List.getElem?_toArray, List.getElem?_append_right (by simp), List.getElem?_append_left (by simp [sul_length hU]; omega)]
          simp
        · rw [if_neg (by omega), Array.getElem?_setIfInBounds, if_neg (by omega)]
          unfold z69
          rw [List.getElem?_toArray, List.getElem?_toArray, List.getElem?_append_right (by simp), List.getElem?_append_right (by simp [sul_length hU]; omega), List.getElem?_cons_succ, List.getElem?_append_right (by rw [sul_length E30_set]; omega), sul_length E30_set, sul_length hU]
          simp
    · rw [Array.getElem?_eq_none (by omega), Array.getElem?_eq_none (by rw [List.size_toArray, pg_len hU E30_set E30_set]; omega)]
  unfold execOp
  rw [ho]
  simp [go_sem, hx, hy, hs]
  exact hb
set_option maxRecDepth 100000 in
set_option maxHeartbeats 2000000 in
theorem format_any {w : World} {B d : Nat} {V : Nat → B8} {n : Nat} (h : Dsk w B d V n) (h0 : V 0 = zeros 128) (h1 : V 1 = zeros 128) :
    Calls Tryz.prog 6 #[.pointer (some ⟨d, 0, none⟩)] w fun e w' => ∃ P, e = .returned (.tuple #[.pointer (some ⟨P, 0, none⟩), .nilIface]) ∧ PAt w' B P d (upd V 1 (laidP 1 (slay 1 0 E30))) 0 (1, 0, E30) E30 E30 ∧ KT B isPg w w' := by
  have BEST := Lib.hid (best_any h zT zT (.inl ⟨rfl, h0⟩) (.inl ⟨rfl, h1⟩))
  have HH := Lib.hid h
  have SOK := Lib.hid (show SOk 1 0 E30 from ⟨E30_set, by omega, by omega, .inl rfl, by decide, by decide⟩)
  have Z32 := Lib.hid (sv_size (gen := 0) (root := 0) E30_set)
  have S32 := Lib.hid (sv_size (gen := 1) (root := 0) E30_set)
  clear h h0 h1
  go_enter Tryz.func6, Tryz.ntmps6
  go_wp2_with fail
  refine BEST.out.mono ?_
  rintro e w2 ⟨he, hb2⟩
  rw [if_pos (show (better zT zT).1 = 0 from rfl)] at he
  obtain ⟨g, rfl, he2⟩ := he
  obtain ⟨X, hX⟩ : ∃ X, X = w2.heap.size := ⟨_, rfl⟩
  obtain ⟨W3, hW3⟩ : ∃ W, W = w2.alloc (.cells L52 52) := ⟨_, rfl⟩
  obtain ⟨W4, hW4⟩ : ∃ W, W = W3.setRow X (sv 0 0 E30) := ⟨_, rfl⟩
  have x3 : W3.heap[X]? = some (.cells (sv 0 0 E30) 52 (0, 0)) := by rw [hW3, hX, ← L52_eq]; exact heap_alloc_new _ _
  have b3 : Below w2.heap.size w2 W4 := by rw [hW4, hW3]; exact below_setRow ((Below.refl _ _).alloc (Nat.le_refl _) _) (by rw [hX]; exact Nat.le_refl _) _
  have X3 := Lib.hid x3
  have x4 : W4.heap[X]? = some (.cells (sv 0 0 E30) 52 (0, 0)) := by rw [hW4]; exact setRow_has x3
  have X4 := Lib.hid x4
  have B4 := Lib.hid (hb2.trans (b3.mono hb2.size))
  have E4 := Lib.hid (show ErrAt W4 g superTag 4 from (b3.block g (row_lt he2)).trans he2)
  have XG := Lib.hid (show w.heap.size ≤ X by rw [hX]; exact hb2.size)
  have c4 : W4.cell? ⟨X, 0, none⟩ = some (.int .u32 0) := cell_of_row W4 X 0 _ 52 (0, 0) x4
  have HX := Lib.hid hX
  have HW3 := Lib.hid hW3
  have HW4 := Lib.hid hW4.symm
  clear hb2 hX hW3 hW4 x3 x4 b3 he2
  go_upto_region 7 with (first | (go_at_call 20; refine (same_tag g superTag 4 4 _ E4.out).mono ?_; rintro e w5 ⟨rfl, rfl⟩) | (rw [← HW3.out, ← HX.out]; refine wpList_store_row rfl 52 (.tmp 4) (.tmp 10) rfl X (sv 0 0 E30) rfl rfl 52 (sv 0 0 E30) X3.out (by rw [Z32.out]; exact size52) rfl (sv_one _ _ _) ?_; rw [HW4.out]) | (refine wpList_store_row rfl 52 (.tmp 4) (.tmp 30) rfl X (sv 1 0 E30) rfl rfl 52 (sv 0 0 E30) X4.out (by rw [S32.out]; exact size52) (by rw [S32.out, Z32.out]) (sv_one _ _ _) ?_))
  obtain ⟨W5, hW5⟩ : ∃ W, W = W4.setRow X (sv 1 0 E30) := ⟨_, rfl⟩
  have X5 := Lib.hid (show W5.heap[X]? = some (.cells (sv 1 0 E30) 52 (0, 0)) by rw [hW5]; exact setRow_has X4.out)
  have b5 : Below w.heap.size w W5 := by rw [hW5]; exact below_setRow B4.out XG.out _
  have SW := Lib.hid (switch_any (HH.out.below b5) (1, 0, E30) SOK.out)
  have B5 := Lib.hid b5
  rw [← hW5]
  clear hW5 b5 c4
  go_wp2_with (first | (go_at_call 21; refine SW.out.mono ?_; rintro e w6 ⟨rfl, hd6, hk6⟩; have D6 := Lib.hid hd6; have X6 := Lib.hid (hk6.cells X5.out rfl); have K6 := Lib.hid ((KT.of_below B5.out B isPg).trans (hk6.more (fun t => isPg_disk))); clear hd6 hk6) | (refine l_is (.load 52 (.tmp 4)) rfl rfl (run_ld_sup (x := .tmp 4) rfl rfl E30_set X5.out) ?_) | (refine l_is (.load 52 (.tmp 4)) rfl rfl (run_ld_sup (x := .tmp 4) rfl rfl E30_set X6.out) ?_) | (refine l_is (.build 69 #[(0, .tmp 37), (1, .tmp 38)]) rfl rfl (run_build69 (x := .tmp 37) (y := .tmp 38) (d := d) (s := (1, 0, E30)) rfl E30_set rfl rfl _) ?_))
  go_ret2
  have hb := (Below.refl w6.heap.size w6).alloc (Nat.le_refl _) (.cells (pgl d (1, 0, E30) E30 E30).toArray 69)
  exact ⟨w6.heap.size, rfl, ⟨heap_alloc_new _ _, D6.out.below hb, E30_set, E30_set, E30_set, Nat.le_of_lt (Nat.lt_of_le_of_lt D6.out.low.1 D6.out.low.2)⟩, K6.out.trans (KT.of_below hb B isPg)⟩
end Go.Proofs.YtnlolhlbpdmljaaGreatDoor
