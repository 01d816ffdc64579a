/-
  The pager's set of used pages.
  Conditions: none.
-/
import Derived.Test.YtnlolhlbpdmljaaGreatDoorPgrA
namespace Go.Proofs.YtnlolhlbpdmljaaGreatDoor
open Go.ChangeShapes Go.WideShapes Go.RowKit
abbrev L50 : Array Value := #[.int .u8 0, .int .u8 0, .int .u8 0, .int .u8 0, .int .u8 0, .int .u8 0, .int .u8 0, .int .u8 0, .int .u8 0, .int .u8 0, .int .u8 0, .int .u8 0, .int .u8 0, .int .u8 0, .int .u8 0, .int .u8 0, .int .u8 0, .int .u8 0, .int .u8 0, .int .u8 0, .int .u8 0, .int .u8 0, .int .u8 0, .int .u8 0, .int .u8 0, .int .u8 0, .int .u8 0, .int .u8 0, .int .u8 0, .int .u8 0]
theorem L50_eq : L50 = Z30 := by kernel_rfl
theorem Bv_sz {U : List Nat} (h : Set30 U) : (Bv U).size = 30 := by rw [Bv_size, h.len]
set_option maxRecDepth 100000 in
set_option maxHeartbeats 2000000 in
theorem used_any {w : World} {B P d : Nat} {V : Nat → B8} {n : Nat} {s : SupT} {Fr Go : List Nat} (h : PAt w B P d V n s Fr Go) :
    Calls Tryz.prog 30 #[.pointer (some ⟨P, 0, none⟩)] w fun e w' => e = .returned (.agg (Bv (usedP s.2.2 Fr Go))) ∧ Below w.heap.size w w' := by
  obtain ⟨R, hR⟩ : ∃ R, R = w.heap.size := ⟨_, rfl⟩
  obtain ⟨W1, hW1⟩ : ∃ W, W = w.alloc (.cells L50 50) := ⟨_, rfl⟩
  have b1 : Below w.heap.size w W1 := by rw [hW1]; exact (Below.refl _ _).alloc (Nat.le_refl _) _
  have R1 := Lib.hid (show W1.heap[R]? = some (.cells Z30 50 (0, 0)) by rw [hW1, hR, ← L50_eq]; exact heap_alloc_new _ _)
  have P1 := Lib.hid (h.below b1).obj
  have B1 := Lib.hid b1
  have HR := Lib.hid hR
  have HW1 := Lib.hid hW1
  have SU := Lib.hid h.su
  have SF := Lib.hid h.sf
  have SG := Lib.hid h.sg
  have PR := Lib.hid (show P ≠ R by have := row_lt h.obj; omega)
  have US := Lib.hid (fun k => usedK_set (Go := Go) h.su h.sf k)
  have BOTH := Lib.hid (fun w => both_any s.2.2 Fr h.su h.sf w)
  clear h hR hW1 b1
  go_enter Tryz.func30, Tryz.ntmps30
  go_upto_region 1 with fail
  rw [← HW1.out, ← HR.out]
  go_upto_region 3 with fail
  obtain ⟨w4, hw4⟩ : ∃ u, u = W1.drew := ⟨_, rfl⟩
  have HD4 := Lib.hid hw4.symm
  have R4 := Lib.hid (show w4.heap[R]? = some (.cells Z30 50 (0, 0)) by rw [hw4]; exact R1.out)
  have P4 := Lib.hid (show w4.heap[P]? = some (.cells (pgl d s Fr Go).toArray 69 (0, 0)) by rw [hw4]; exact P1.out)
  have B4 := Lib.hid (show Below w.heap.size w w4 by rw [hw4]; exact B1.out.drew)
  clear hw4 R1 P1 B1
  refine g_region (fun w' => w'.heap[P]? = some (.cells (pgl d s Fr Go).toArray 69 (0, 0))) 12 rfl (by kernel_rfl) ?_
  rw [HD4.out]
  refine g_take 0 rfl (some 8) rfl (by kernel_rfl) (by kernel_rfl) (by kernel_rfl) (fun _ _ _ h => h) rfl (fun w' hw' => run_move_is (.tmp 0) (.pointer (some ⟨P, 0, none⟩)) rfl rfl w') P4.out ?_
  simp only [Act.put, List.setIfInBounds_toArray, List.set_cons_succ, List.set_cons_zero]
  refine g_take 1 rfl (some 9) rfl (by kernel_rfl) (by kernel_rfl) (by kernel_rfl) (fun _ _ _ h => h) rfl (fun w' hw' => run_nilc (x := .tmp 8) (a := ⟨P, 0, none⟩) rfl rfl w') P4.out ?_
  simp only [Act.put, List.setIfInBounds_toArray, List.set_cons_succ, List.set_cons_zero]
  refine g_take 2 rfl (some 10) rfl (by kernel_rfl) (by kernel_rfl) (by kernel_rfl) (fun _ _ _ h => h) rfl (fun w' hw' => run_fld69_1 (x := .tmp 9) (d := P) rfl rfl w') P4.out ?_
  simp only [Act.put, List.setIfInBounds_toArray, List.set_cons_succ, List.set_cons_zero]
  refine g_take 3 rfl (some 11) rfl (by kernel_rfl) (by kernel_rfl) (by kernel_rfl) (fun _ _ _ h => h) rfl (fun w' hw' => run_fld52i_2 (x := .tmp 10) (d := P) rfl rfl w') P4.out ?_
  simp only [Act.put, List.setIfInBounds_toArray, List.set_cons_succ, List.set_cons_zero]
  refine g_take 4 rfl (some 12) rfl (by kernel_rfl) (by kernel_rfl) (by kernel_rfl) (fun _ _ _ h => h) rfl (fun w' hw' => run_ld_set (x := .tmp 11) rfl rfl SU.out (pg_used hw')) P4.out ?_
  simp only [Act.put, List.setIfInBounds_toArray, List.set_cons_succ, List.set_cons_zero]
  refine g_take 5 rfl (some 13) rfl (by kernel_rfl) (by kernel_rfl) (by kernel_rfl) (fun _ _ _ h => h) rfl (fun w' hw' => run_move_is (.tmp 0) (.pointer (some ⟨P, 0, none⟩)) rfl rfl w') P4.out ?_
  simp only [Act.put, List.setIfInBounds_toArray, List.set_cons_succ, List.set_cons_zero]
  refine g_take 6 rfl (some 14) rfl (by kernel_rfl) (by kernel_rfl) (by kernel_rfl) (fun _ _ _ h => h) rfl (fun w' hw' => run_nilc (x := .tmp 13) (a := ⟨P, 0, none⟩) rfl rfl w') P4.out ?_
  simp only [Act.put, List.setIfInBounds_toArray, List.set_cons_succ, List.set_cons_zero]
  refine g_take 7 rfl (some 15) rfl (by kernel_rfl) (by kernel_rfl) (by kernel_rfl) (fun _ _ _ h => h) rfl (fun w' hw' => run_fld69_2 (x := .tmp 14) (d := P) rfl rfl w') P4.out ?_
  simp only [Act.put, List.setIfInBounds_toArray, List.set_cons_succ, List.set_cons_zero]
  refine g_take 8 rfl (some 16) rfl (by kernel_rfl) (by kernel_rfl) (by kernel_rfl) (fun _ _ _ h => h) rfl (fun w' hw' => run_ld_set (x := .tmp 15) rfl rfl SF.out (pg_fresh hw' SU.out)) P4.out ?_
  simp only [Act.put, List.setIfInBounds_toArray, List.set_cons_succ, List.set_cons_zero]
  refine g_two 9 10 (by kernel_rfl) ?_ ?_
  refine g_call rfl (some 17) rfl rfl (run_call2 (u := .agg (Bv s.2.2)) (v := .agg (Bv Fr)) rfl Tryz.call60 rfl rfl _) (BOTH.out _) ?_
  rintro e u5 ⟨rfl, hbc⟩
  have BC := Lib.hid (show Below w4.heap.size w4 u5 from hbc)
  have P5 := Lib.hid ((hbc.block P (row_lt P4.out)).trans P4.out)
  clear hbc
  refine ⟨_, rfl, P5.out, ?_⟩
  simp only [Act.put, List.setIfInBounds_toArray, List.set_cons_succ, List.set_cons_zero]
  refine g_one 10 (by kernel_rfl) ?_
  obtain ⟨uu, huu⟩ : ∃ W, W = u5.alloc (.cells Z30 50) := ⟨_, rfl⟩
  obtain ⟨X, hX⟩ : ∃ S, S = u5.heap.size := ⟨_, rfl⟩
  have XS := Lib.hid (show uu.heap[X]? = some (.cells Z30 50 (0, 0)) by rw [huu, hX]; exact heap_alloc_new _ _)
  have BA := Lib.hid (show Below u5.heap.size u5 uu by rw [huu]; exact (Below.refl _ _).alloc (Nat.le_refl _) _)
  have PA := Lib.hid ((BA.out.block P (row_lt P5.out)).trans P5.out)
  have RA := Lib.hid (fun (ρ : Operand → Value) (o : Oper) (ho : o.op = .alloc 50) => by
    have h := run_alloc50 (ρ := ρ) ho u5
    rw [← huu, ← hX] at h
    exact h)
  have LS := Lib.hid (show u5.heap.size ≤ X by rw [hX]; exact Nat.le_refl _)
  clear huu hX
  refine g_val rfl (some 3) rfl rfl (RA.out _ _ rfl) PA.out ?_
  simp only [Act.put, List.setIfInBounds_toArray, List.set_cons_succ, List.set_cons_zero]
  have PU := Lib.hid PA.out
  have BU := Lib.hid (show Below w.heap.size w uu from B4.out.trans ((BC.out.trans (BA.out.mono BC.out.size)).mono B4.out.size))
  have XU := Lib.hid (show uu.heap[X]? = some (.cells Z30 50 (0, 0)) from XS.out)
  have RU := Lib.hid (show uu.heap[R]? = some (.cells Z30 50 (0, 0)) from (BA.out.block R (Nat.lt_of_lt_of_le (row_lt R4.out) BC.out.size)).trans ((BC.out.block R (row_lt R4.out)).trans R4.out))
  have XN := Lib.hid (show R < X ∧ P < X ∧ w.heap.size ≤ X by have h1 := row_lt R4.out; have h2 := row_lt P4.out; have h3 := BC.out.size; have h4 := LS.out; have h5 := B4.out.size; omega)
  clear BC P5 XS BA PA RA LS
  rotate_left
  obtain ⟨u5, hu5⟩ : ∃ W, W = w4.alloc (.cells Z30 50) := ⟨_, rfl⟩
  obtain ⟨X, hX⟩ : ∃ S, S = w4.heap.size := ⟨_, rfl⟩
  have XS := Lib.hid (show u5.heap[X]? = some (.cells Z30 50 (0, 0)) by rw [hu5, hX]; exact heap_alloc_new _ _)
  have BA := Lib.hid (show Below w4.heap.size w4 u5 by rw [hu5]; exact (Below.refl _ _).alloc (Nat.le_refl _) _)
  have PA := Lib.hid ((BA.out.block P (row_lt P4.out)).trans P4.out)
  have RA := Lib.hid (fun (ρ : Operand → Value) (o : Oper) (ho : o.op = .alloc 50) => by
    have h := run_alloc50 (ρ := ρ) ho w4
    rw [← hu5, ← hX] at h
    exact h)
  have LS := Lib.hid (show w4.heap.size ≤ X by rw [hX]; exact Nat.le_refl _)
  clear hu5 hX
  refine g_val rfl (some 3) rfl rfl (RA.out _ _ rfl) PA.out ?_
  simp only [Act.put, List.setIfInBounds_toArray, List.set_cons_succ, List.set_cons_zero]
  refine g_one 9 (by kernel_rfl) ?_
  refine g_call rfl (some 17) rfl rfl (run_call2 (u := .agg (Bv s.2.2)) (v := .agg (Bv Fr)) rfl Tryz.call60 rfl rfl _) (BOTH.out _) ?_
  rintro e uu ⟨rfl, hbc⟩
  have BC := Lib.hid (show Below u5.heap.size u5 uu from hbc)
  have P5 := Lib.hid ((hbc.block P (row_lt PA.out)).trans PA.out)
  clear hbc
  refine ⟨_, rfl, P5.out, ?_⟩
  simp only [Act.put, List.setIfInBounds_toArray, List.set_cons_succ, List.set_cons_zero]
  have PU := Lib.hid P5.out
  have BU := Lib.hid (show Below w.heap.size w uu from B4.out.trans ((BA.out.trans (BC.out.mono BA.out.size)).mono B4.out.size))
  have XU := Lib.hid (show uu.heap[X]? = some (.cells Z30 50 (0, 0)) from (BC.out.block X (row_lt XS.out)).trans XS.out)
  have RU := Lib.hid (show uu.heap[R]? = some (.cells Z30 50 (0, 0)) from (BC.out.block R (Nat.lt_of_lt_of_le (row_lt R4.out) BA.out.size)).trans ((BA.out.block R (row_lt R4.out)).trans R4.out))
  have XN := Lib.hid (show R < X ∧ P < X ∧ w.heap.size ≤ X by have h1 := row_lt R4.out; have h2 := row_lt P4.out; have h4 := LS.out; have h5 := B4.out.size; omega)
  clear BC P5 XS BA PA RA LS
  all_goals
    refine g_one 11 (by kernel_rfl) ?_
    obtain ⟨W5, hW5⟩ : ∃ W, W = uu.setRow X (Bv (bothP s.2.2 Fr)) := ⟨_, rfl⟩
    have X5 := Lib.hid (show W5.heap[X]? = some (.cells (Bv (usedK s.2.2 Fr Go 0)) 50 (0, 0)) by rw [hW5]; exact setRow_has XU.out)
    have P5 := Lib.hid (show W5.heap[P]? = some (.cells (pgl d s Fr Go).toArray 69 (0, 0)) by rw [hW5, setRow_other _ _ _ _ (by have := XN.out; omega)]; exact PU.out)
    have R5 := Lib.hid (show W5.heap[R]? = some (.cells Z30 50 (0, 0)) by rw [hW5, setRow_other _ _ _ _ (by have := XN.out; omega)]; exact RU.out)
    have B5 := Lib.hid (show Below w.heap.size w W5 by rw [hW5]; exact below_setRow BU.out XN.out.2.2 _)
    have HW5 := Lib.hid hW5.symm
    clear hW5 PU BU RU
    refine g_skp (w' := W5) rfl rfl rfl (by rw [← HW5.out]; exact run_store_row50 (x := .tmp 3) (y := .tmp 17) rfl (US.out 0) rfl rfl XU.out rfl) P5.out ?_
    refine g_done (by kernel_rfl) ?_
    go_wp2_with fail
    go_loopw [18] (fun i' wr => ∃ k : Nat, i' = .int .i64 k ∧ k ≤ 240 ∧ wr.heap[X]? = some (.cells (Bv (usedK s.2.2 Fr Go k)) 50 (0, 0)) ∧ Below X W5 wr) (fun i' _ => 240 - (intOf i').toNat)
    case atStart => exact ⟨0, rfl, by omega, X5.out, Below.refl _ _⟩
    case round =>
      obtain ⟨k, rfl, hk, hx, hb⟩ := hrel
      have XX := Lib.hid hx
      have BX := Lib.hid hb
      have PK := Lib.hid ((hb.block P XN.out.2.1).trans P5.out)
      clear hx hb
      by_cases hlt : k < 240
      · have HAS := Lib.hid (fun w => has_any Go (k : Int) w SG.out)
        rw [hasP_nat hlt] at HAS
        have HLT := Lib.hid hlt
        by_cases hm : mem Go k = true
        · have NX := Lib.hid (show usedK s.2.2 Fr Go (k + 1) = withoutP (usedK s.2.2 Fr Go k) (k : Int) by show (if mem Go k then _ else _) = _; rw [if_pos hm])
          rw [hm] at HAS
          clear hm
          go_upto_region 8 with (first | (go_at_call 17; refine (HAS.out _).mono ?_; rintro e w6 ⟨rfl, hb6⟩; have X6 := Lib.hid ((hb6.block X (row_lt XX.out)).trans XX.out); have B6 := Lib.hid (BX.out.trans (hb6.mono (Nat.le_of_lt (row_lt XX.out)))); clear hb6) | (refine l_is (.load 50 (.tmp 23)) rfl rfl (run_ld_set (x := .tmp 23) rfl rfl SG.out (pg_gone PK.out SU.out SF.out)) ?_))
          refine wp_region_lit ?_
          refine l_is (.load 50 (.tmp 3)) rfl rfl (run_load_agg (x := .tmp 3) rfl rfl X6.out Tryz.underlying50 rfl (by rw [Bv_sz (US.out k)]; exact size50)) ?_
          go_wp2_with fail
          refine (without_any _ (k : Int) _ (US.out k)).mono ?_
          rintro e w7 ⟨rfl, hb7⟩
          have X7 := Lib.hid ((hb7.block X (row_lt X6.out)).trans X6.out)
          have B7 := Lib.hid (B6.out.trans (hb7.mono (Nat.le_of_lt (row_lt X6.out))))
          clear hb7
          rw [← NX.out]
          go_wp2_with (refine wpList_store_row rfl 50 (.tmp 3) (.tmp 29) rfl X (Bv (usedK s.2.2 Fr Go (k + 1))) rfl rfl 50 (Bv (usedK s.2.2 Fr Go k)) X7.out (by rw [Bv_sz (US.out (k + 1))]; exact size50) (by rw [Bv_sz (US.out k), Bv_sz (US.out (k + 1))]) (Bv_one _) ?_)
          have X8 := Lib.hid (show (w7.setRow X (Bv (usedK s.2.2 Fr Go (k + 1)))).heap[X]? = some (.cells (Bv (usedK s.2.2 Fr Go (k + 1))) 50 (0, 0)) from setRow_has X7.out)
          have B8 := Lib.hid (show Below X W5 (w7.setRow X (Bv (usedK s.2.2 Fr Go (k + 1)))) from below_setRow B7.out (Nat.le_refl _) _)
          go_roundw
          case rel => exact ⟨k + 1, by go_num, HLT.out, X8.out, B8.out⟩
          case measure => have := HLT.out; simp [intOf]; omega
        · have NX := Lib.hid (show usedK s.2.2 Fr Go (k + 1) = usedK s.2.2 Fr Go k by show (if mem Go k then _ else _) = _; rw [if_neg hm])
          rw [show mem Go k = false by simpa using hm] at HAS
          clear hm
          go_wp2_with (first | (go_at_call 17; refine (HAS.out _).mono ?_; rintro e w6 ⟨rfl, hb6⟩; have X6 := Lib.hid ((hb6.block X (row_lt XX.out)).trans XX.out); have B6 := Lib.hid (BX.out.trans (hb6.mono (Nat.le_of_lt (row_lt XX.out)))); clear hb6) | (refine l_is (.load 50 (.tmp 23)) rfl rfl (run_ld_set (x := .tmp 23) rfl rfl SG.out (pg_gone PK.out SU.out SF.out)) ?_))
          go_roundw
          case rel => exact ⟨k + 1, by go_num, HLT.out, by rw [NX.out]; exact X6.out, B6.out⟩
          case measure => have := HLT.out; simp [intOf]; omega
      · have hkl : k = 240 := by omega
        subst hkl
        have R6 := Lib.hid ((BX.out.block R XN.out.1).trans R5.out)
        have B6 := Lib.hid (B5.out.trans (BX.out.mono XN.out.2.2))
        go_upto_region 10 with fail
        refine wp_region_lit ?_
        refine l_is (.load 50 (.tmp 3)) rfl rfl (run_load_agg (x := .tmp 3) rfl rfl XX.out Tryz.underlying50 rfl (by rw [Bv_sz (US.out 240)]; exact size50)) ?_
        refine wpList_store_row rfl 50 (.tmp 2) (.tmp 31) rfl R (Bv (usedK s.2.2 Fr Go 240)) rfl rfl 50 Z30 R6.out (by rw [Bv_sz (US.out 240)]; exact size50) (by rw [Bv_sz (US.out 240)]; rfl) (Bv_one _) ?_
        go_wp2_with fail
        exact bodyPost_ret (results_set rfl _ _ R 50 (usedP s.2.2 Fr Go) 5 (US.out 240) rfl (setRow_has R6.out) Tryz.underlying50 size50) rfl ⟨rfl, below_setRow B6.out (by rw [HR.out]; exact Nat.le_refl _) _⟩
end Go.Proofs.YtnlolhlbpdmljaaGreatDoor
