/-
  Superblocks read.
  Conditions: the superblock is a right one.
-/
import Derived.Test.YtnlolhlbpdmljaaGreatDoorSupC
namespace Go.Proofs.YtnlolhlbpdmljaaGreatDoor
open Go.ChangeShapes Go.WideShapes Go.RowKit
abbrev L52 : Array Value := #[.int .u32 0, .int .i64 0, .int .u8 0, .int .u8 0, .int .u8 0, .int .u8 0, .int .u8 0, .int .u8 0, .int .u8 0, .int .u8 0, .int .u8 0, .int .u8 0, .int .u8 0, .int .u8 0, .int .u8 0, .int .u8 0, .int .u8 0, .int .u8 0, .int .u8 0, .int .u8 0, .int .u8 0, .int .u8 0, .int .u8 0, .int .u8 0, .int .u8 0, .int .u8 0, .int .u8 0, .int .u8 0, .int .u8 0, .int .u8 0, .int .u8 0, .int .u8 0]
theorem L52_eq : L52 = sv 0 0 E30 := by kernel_rfl
theorem results_sup {fn : Func} {p u : Tmp} (h : fn.results = #[.cell p 52, .tmp u]) (tmps : Array Value) (w : World) (g : Nat) (t : TypeId) (cs : Array Value) (fr : Nat × Nat) (v : Value)
    (hp : tmps.getD p undef = .pointer (some ⟨g, 0, none⟩)) (hg : w.heap[g]? = some (.cells cs t fr)) (hi : cs.size = 32) (hv : tmps.getD u undef = v) :
    (results fn tmps).run Tryz.prog w = .ok (.tuple #[.agg cs, v]) w := by
  rw [results_cell_tmp h, hp, hv]
  simp only [asAddr, Sem.run_pure, Result.andThen_ok, run_loadVar_row w g t 52 cs fr _ hg Tryz.underlying52 rfl (by rw [hi]; exact size52)]
theorem run_store_row52 {ρ : Operand → Value} {o : Oper} {x y : Operand} (ho : o.op = .store 52 x y) {g : Nat} {cs : Array Value} (hx : ρ x = .pointer (some ⟨g, 0, none⟩)) (hy : ρ y = .agg cs) {t : TypeId} {old : Array Value} {w : World} (hg : w.heap[g]? = some (.cells old t (0, 0))) (h1 : old.size = 32) (h2 : cs.size = 32) (h3 : cs.all (·.oneCell') = true) : (execOp ρ o).run Tryz.prog w = .ok .skip (w.setRow g cs) := by
  have hr := run_storeVar_row (P := Tryz.prog) w g t 52 old cs hg (by rw [h2]; exact size52) (by rw [h1, h2]) h3
  unfold execOp
  rw [ho]
  simp only [hx, hy, Instr.storeAt, Instr.sureAddr, Sem.run_bind, Sem.run_pure, Result.andThen_ok, hr]
set_option maxRecDepth 100000 in
set_option maxHeartbeats 1000000 in
theorem sread_any (gen root : Nat) (U : List Nat) (h : SOk gen root U) (w : World) : Calls Tryz.prog 63 #[.string (strB (slay gen root U))] w fun e w' => e = .returned (.tuple #[.agg (sv gen root U), .nilIface]) ∧ Below w.heap.size w w' := by
  have hsz : (strB (slay gen root U)).size = 35 := by rw [strB_size, slay_length h.set]
  have hrt : root < 256 := by rcases h.root with h | h <;> omega
  obtain ⟨R, hR⟩ : ∃ R, R = w.heap.size := ⟨_, rfl⟩
  obtain ⟨W1, hW1⟩ : ∃ W, W = w.alloc (.cells L52 52) := ⟨_, rfl⟩
  have R1 := Lib.hid (show W1.heap[R]? = some (.cells (sv 0 0 E30) 52 (0, 0)) by rw [hW1, hR, ← L52_eq]; exact heap_alloc_new _ _)
  have B1 := Lib.hid (show Below w.heap.size w W1 by rw [hW1]; exact (Below.refl _ _).alloc (Nat.le_refl _) _)
  have HR := Lib.hid hR
  have HW1 := Lib.hid hW1
  have HU := Lib.hid h.set
  have HG := Lib.hid h.gen
  have RIGHT := Lib.hid (fun w => sright_any gen root U h w)
  have GET := Lib.hid (fun w => get_any (slay gen root U) 4 (by omega) (by omega) (by rw [slay_length h.set]; omega) (by rw [slay_length h.set]; omega) w)
  have HT := Lib.hid (show (unbe ((slay gen root U).take 4) : Int) = (gen : Int) by
    unfold slay
    rw [List.append_assoc, List.take_left' (be_length _ _), unbe_be 4 _ (by have := h.gen; omega)])
  rw [HT.out] at GET
  have H4 := Lib.hid (show (slay gen root U)[4]? = some (UInt8.ofNat root) by
    unfold slay
    rw [List.append_assoc, List.getElem?_append_right (by rw [be_length]; omega), be_length]
    unfold be
    simp)
  have HR8 := Lib.hid (show ((UInt8.ofNat root).toNat : Int) = (root : Int) by simp; omega)
  have H5 := Lib.hid (show (slay gen root U).drop 5 = u8s U by
    unfold slay
    exact List.drop_left' (by simp [be_length]))
  have SL := Lib.hid (slay_length (gen := gen) (root := root) h.set)
  have UL := Lib.hid (show (u8s U).length = 30 by rw [u8s_length, h.set.len])
  have SV32 := Lib.hid (sv_size (gen := gen) (root := root) h.set)
  have Z32 := Lib.hid (sv_size (gen := 0) (root := 0) E30_set)
  have HRT := Lib.hid hrt
  clear h hR hW1 hrt
  go_enter Tryz.func63, Tryz.ntmps63
  go_upto_region 1 with fail
  rw [← HW1.out, ← HR.out]
  go_wp2_with fail
  refine (GET.out _).mono ?_
  rintro e w2 ⟨rfl, rfl⟩
  go_upto_region 4 with fail
  obtain ⟨w4, hw4⟩ : ∃ u, u = W1.drew := ⟨_, rfl⟩
  have HD4 := Lib.hid hw4.symm
  have R4 := Lib.hid (show w4.heap[R]? = some (.cells (sv 0 0 E30) 52 (0, 0)) by rw [hw4]; exact R1.out)
  have B4 := Lib.hid (show Below w.heap.size w w4 by rw [hw4]; exact B1.out.drew)
  clear hw4 R1 B1
  refine g_region (fun w' => True) 13 rfl (by kernel_rfl) ?_
  rw [HD4.out]
  refine g_take 0 rfl (some 18) rfl (by kernel_rfl) (by kernel_rfl) (by kernel_rfl) (fun _ _ _ h => h) rfl (fun w' hw' => run_move_is (.tmp 4) (.int .i64 (gen : Int)) rfl rfl w') trivial ?_
  simp only [Act.put, List.setIfInBounds_toArray, List.set_cons_succ, List.set_cons_zero]
  refine g_take 1 rfl (some 19) rfl (by kernel_rfl) (by kernel_rfl) (by kernel_rfl) (fun _ _ _ h => h) rfl (fun w' hw' => run_conv_3_44 (x := .tmp 18) rfl rfl HG.out w') trivial ?_
  simp only [Act.put, List.setIfInBounds_toArray, List.set_cons_succ, List.set_cons_zero]
  refine g_take 2 rfl (some 20) rfl (by kernel_rfl) (by kernel_rfl) (by kernel_rfl) (fun _ _ _ h => h) rfl (fun w' hw' => run_move_is (.tmp 0) (.string (strB (slay gen root U))) rfl rfl w') trivial ?_
  simp only [Act.put, List.setIfInBounds_toArray, List.set_cons_succ, List.set_cons_zero]
  refine g_take 3 rfl (some 21) rfl (by kernel_rfl) (by kernel_rfl) (by kernel_rfl) (fun _ _ _ h => h) rfl (fun w' hw' => run_idx4 (x := .tmp 20) rfl rfl rfl H4.out w') trivial ?_
  simp only [Act.put, List.setIfInBounds_toArray, List.set_cons_succ, List.set_cons_zero]
  refine g_take 4 rfl (some 22) rfl (by kernel_rfl) (by kernel_rfl) (by kernel_rfl) (fun _ _ _ h => h) rfl (fun w' hw' => run_conv8 (x := .tmp 21) rfl rfl (UInt8.toNat_lt _) w') trivial ?_
  simp only [Act.put, List.setIfInBounds_toArray, List.set_cons_succ, List.set_cons_zero]
  refine g_take 5 rfl (some 23) rfl (by kernel_rfl) (by kernel_rfl) (by kernel_rfl) (fun _ _ _ h => h) rfl (fun w' hw' => run_move_is (.tmp 0) (.string (strB (slay gen root U))) rfl rfl w') trivial ?_
  simp only [Act.put, List.setIfInBounds_toArray, List.set_cons_succ, List.set_cons_zero]
  refine g_take 6 rfl (some 24) rfl (by kernel_rfl) (by kernel_rfl) (by kernel_rfl) (fun _ _ _ h => h) rfl (fun w' hw' => run_slc5 (x := .tmp 23) rfl rfl rfl (by rw [SL.out]; omega) H5.out w') trivial ?_
  simp only [Act.put, List.setIfInBounds_toArray, List.set_cons_succ, List.set_cons_zero]
  rw [HR8.out]
  refine g_two 7 11 (by kernel_rfl) ?_ ?_
  rotate_left
  obtain ⟨a1, ha1⟩ : ∃ W, W = w4.alloc (.cells (sv 0 0 E30) 52) := ⟨_, rfl⟩
  obtain ⟨S6, hS6⟩ : ∃ S, S = w4.heap.size := ⟨_, rfl⟩
  have XS := Lib.hid (show a1.heap[S6]? = some (.cells (sv 0 0 E30) 52 (0, 0)) by rw [ha1, hS6]; exact heap_alloc_new _ _)
  have BA := Lib.hid (show Below w4.heap.size w4 a1 by rw [ha1]; exact (Below.refl _ _).alloc (Nat.le_refl _) _)
  have RA := Lib.hid (fun (ρ : Operand → Value) (o : Oper) (ho : o.op = .alloc 52) => by
    have h := run_alloc52 (ρ := ρ) ho w4
    rw [← ha1, ← hS6] at h
    exact h)
  have LS := Lib.hid (show w4.heap.size ≤ S6 by rw [hS6]; exact Nat.le_refl _)
  clear ha1 hS6
  refine g_val rfl (some 6) rfl rfl (RA.out _ _ rfl) trivial ?_
  simp only [Act.put, List.setIfInBounds_toArray, List.set_cons_succ, List.set_cons_zero]
  refine g_one 7 (by kernel_rfl) ?_
  obtain ⟨cc, uu, hcv, hbv, hrv, hlv⟩ := run_bytes_new (u8s U) a1
  obtain ⟨G, hG⟩ : ∃ G, G = a1.heap.size := ⟨_, rfl⟩
  rw [← hG, UL.out] at hcv
  rw [← hG, u8s_cells HU.out] at hrv
  have HCV := Lib.hid hcv
  have HRV := Lib.hid hrv
  have BV := Lib.hid hbv
  have GL := Lib.hid (show G < uu.heap.size by rw [hG]; exact hlv)
  clear hcv hbv hrv hlv hG
  refine g_val rfl (some 25) rfl rfl (HCV.out _ _ (.tmp 24) rfl rfl) trivial ?_
  simp only [Act.put, List.setIfInBounds_toArray, List.set_cons_succ, List.set_cons_zero]
  refine g_take 8 rfl (some 26) rfl (by kernel_rfl) (by kernel_rfl) (by kernel_rfl) (fun _ _ _ h => h) rfl (fun w' hw' => run_arr50 (x := .tmp 25) rfl rfl w') trivial ?_
  simp only [Act.put, List.setIfInBounds_toArray, List.set_cons_succ, List.set_cons_zero]
  refine g_one 9 (by kernel_rfl) ?_
  refine g_val rfl (some 27) rfl rfl (run_ld_set (x := .tmp 26) (S := G) (k := 0) rfl rfl HU.out HRV.out) trivial ?_
  simp only [Act.put, List.setIfInBounds_toArray, List.set_cons_succ, List.set_cons_zero]
  refine g_take 10 rfl (some 28) rfl (by kernel_rfl) (by kernel_rfl) (by kernel_rfl) (fun _ _ _ h => h) rfl (fun w' hw' => run_build52 (x := .tmp 19) (y := .tmp 22) (z := .tmp 27) rfl HU.out rfl rfl rfl w') trivial ?_
  simp only [Act.put, List.setIfInBounds_toArray, List.set_cons_succ, List.set_cons_zero]
  have XU := Lib.hid (show uu.heap[S6]? = some (.cells (sv 0 0 E30) 52 (0, 0)) from (BV.out.block S6 (row_lt XS.out)).trans XS.out)
  have BU := Lib.hid (show Below w.heap.size w uu from B4.out.trans ((BA.out.trans (BV.out.mono BA.out.size)).mono B4.out.size))
  have RU := Lib.hid (show uu.heap[R]? = some (.cells (sv 0 0 E30) 52 (0, 0)) from (BV.out.block R (Nat.lt_of_lt_of_le (row_lt R4.out) BA.out.size)).trans ((BA.out.block R (row_lt R4.out)).trans R4.out))
  have SNE := Lib.hid (show R ≠ S6 by have h1 := row_lt R4.out; have h2 := LS.out; omega)
  have SGE := Lib.hid (show w.heap.size ≤ S6 by have h1 := B4.out.size; have h2 := LS.out; omega)
  clear XS BA RA LS BV HCV HRV GL
  rotate_left
  obtain ⟨cc, b1, hcv, hbv, hrv, hlv⟩ := run_bytes_new (u8s U) w4
  obtain ⟨G, hG⟩ : ∃ G, G = w4.heap.size := ⟨_, rfl⟩
  rw [← hG, UL.out] at hcv
  rw [← hG, u8s_cells HU.out] at hrv
  have HCV := Lib.hid hcv
  have HRV := Lib.hid hrv
  have BV := Lib.hid hbv
  have GL := Lib.hid (show G < b1.heap.size by rw [hG]; exact hlv)
  clear hcv hbv hrv hlv hG
  refine g_val rfl (some 25) rfl rfl (HCV.out _ _ (.tmp 24) rfl rfl) trivial ?_
  simp only [Act.put, List.setIfInBounds_toArray, List.set_cons_succ, List.set_cons_zero]
  refine g_take 8 rfl (some 26) rfl (by kernel_rfl) (by kernel_rfl) (by kernel_rfl) (fun _ _ _ h => h) rfl (fun w' hw' => run_arr50 (x := .tmp 25) rfl rfl w') trivial ?_
  simp only [Act.put, List.setIfInBounds_toArray, List.set_cons_succ, List.set_cons_zero]
  refine g_two 9 11 (by kernel_rfl) ?_ ?_
  refine g_val rfl (some 27) rfl rfl (run_ld_set (x := .tmp 26) (S := G) (k := 0) rfl rfl HU.out HRV.out) trivial ?_
  simp only [Act.put, List.setIfInBounds_toArray, List.set_cons_succ, List.set_cons_zero]
  refine g_take 10 rfl (some 28) rfl (by kernel_rfl) (by kernel_rfl) (by kernel_rfl) (fun _ _ _ h => h) rfl (fun w' hw' => run_build52 (x := .tmp 19) (y := .tmp 22) (z := .tmp 27) rfl HU.out rfl rfl rfl w') trivial ?_
  simp only [Act.put, List.setIfInBounds_toArray, List.set_cons_succ, List.set_cons_zero]
  refine g_one 11 (by kernel_rfl) ?_
  obtain ⟨uu, huu⟩ : ∃ W, W = b1.alloc (.cells (sv 0 0 E30) 52) := ⟨_, rfl⟩
  obtain ⟨S6, hS6⟩ : ∃ S, S = b1.heap.size := ⟨_, rfl⟩
  have XS := Lib.hid (show uu.heap[S6]? = some (.cells (sv 0 0 E30) 52 (0, 0)) by rw [huu, hS6]; exact heap_alloc_new _ _)
  have BA := Lib.hid (show Below b1.heap.size b1 uu by rw [huu]; exact (Below.refl _ _).alloc (Nat.le_refl _) _)
  have RA := Lib.hid (fun (ρ : Operand → Value) (o : Oper) (ho : o.op = .alloc 52) => by
    have h := run_alloc52 (ρ := ρ) ho b1
    rw [← huu, ← hS6] at h
    exact h)
  have LS := Lib.hid (show b1.heap.size ≤ S6 by rw [hS6]; exact Nat.le_refl _)
  clear huu hS6
  refine g_val rfl (some 6) rfl rfl (RA.out _ _ rfl) trivial ?_
  simp only [Act.put, List.setIfInBounds_toArray, List.set_cons_succ, List.set_cons_zero]
  have XU := Lib.hid (show uu.heap[S6]? = some (.cells (sv 0 0 E30) 52 (0, 0)) from XS.out)
  have BU := Lib.hid (show Below w.heap.size w uu from B4.out.trans ((BV.out.trans (BA.out.mono BV.out.size)).mono B4.out.size))
  have RU := Lib.hid (show uu.heap[R]? = some (.cells (sv 0 0 E30) 52 (0, 0)) from (BA.out.block R (Nat.lt_of_lt_of_le (row_lt R4.out) BV.out.size)).trans ((BV.out.block R (row_lt R4.out)).trans R4.out))
  have SNE := Lib.hid (show R ≠ S6 by have h1 := row_lt R4.out; have h2 := LS.out; have h3 := BV.out.size; omega)
  have SGE := Lib.hid (show w.heap.size ≤ S6 by have h1 := B4.out.size; have h2 := LS.out; have h3 := BV.out.size; omega)
  clear XS BA RA LS BV HCV HRV GL
  rotate_left
  obtain ⟨uu, huu⟩ : ∃ W, W = b1.alloc (.cells (sv 0 0 E30) 52) := ⟨_, rfl⟩
  obtain ⟨S6, hS6⟩ : ∃ S, S = b1.heap.size := ⟨_, rfl⟩
  have XS := Lib.hid (show uu.heap[S6]? = some (.cells (sv 0 0 E30) 52 (0, 0)) by rw [huu, hS6]; exact heap_alloc_new _ _)
  have BA := Lib.hid (show Below b1.heap.size b1 uu by rw [huu]; exact (Below.refl _ _).alloc (Nat.le_refl _) _)
  have RA := Lib.hid (fun (ρ : Operand → Value) (o : Oper) (ho : o.op = .alloc 52) => by
    have h := run_alloc52 (ρ := ρ) ho b1
    rw [← huu, ← hS6] at h
    exact h)
  have LS := Lib.hid (show b1.heap.size ≤ S6 by rw [hS6]; exact Nat.le_refl _)
  clear huu hS6
  refine g_val rfl (some 6) rfl rfl (RA.out _ _ rfl) trivial ?_
  simp only [Act.put, List.setIfInBounds_toArray, List.set_cons_succ, List.set_cons_zero]
  refine g_one 9 (by kernel_rfl) ?_
  refine g_val rfl (some 27) rfl rfl (run_ld_set (x := .tmp 26) (S := G) (k := 0) rfl rfl HU.out (fun j v hj => (BA.out.cell (by exact GL.out)).trans (HRV.out j v hj))) trivial ?_
  simp only [Act.put, List.setIfInBounds_toArray, List.set_cons_succ, List.set_cons_zero]
  refine g_take 10 rfl (some 28) rfl (by kernel_rfl) (by kernel_rfl) (by kernel_rfl) (fun _ _ _ h => h) rfl (fun w' hw' => run_build52 (x := .tmp 19) (y := .tmp 22) (z := .tmp 27) rfl HU.out rfl rfl rfl w') trivial ?_
  simp only [Act.put, List.setIfInBounds_toArray, List.set_cons_succ, List.set_cons_zero]
  have XU := Lib.hid (show uu.heap[S6]? = some (.cells (sv 0 0 E30) 52 (0, 0)) from XS.out)
  have BU := Lib.hid (show Below w.heap.size w uu from B4.out.trans ((BV.out.trans (BA.out.mono BV.out.size)).mono B4.out.size))
  have RU := Lib.hid (show uu.heap[R]? = some (.cells (sv 0 0 E30) 52 (0, 0)) from (BA.out.block R (Nat.lt_of_lt_of_le (row_lt R4.out) BV.out.size)).trans ((BV.out.block R (row_lt R4.out)).trans R4.out))
  have SNE := Lib.hid (show R ≠ S6 by have h1 := row_lt R4.out; have h2 := LS.out; have h3 := BV.out.size; omega)
  have SGE := Lib.hid (show w.heap.size ≤ S6 by have h1 := B4.out.size; have h2 := LS.out; have h3 := BV.out.size; omega)
  clear XS BA RA LS BV HCV HRV GL
  all_goals
    refine g_one 12 (by kernel_rfl) ?_
    obtain ⟨W5, hW5⟩ : ∃ W, W = uu.setRow S6 (sv gen root U) := ⟨_, rfl⟩
    have S5 := Lib.hid (show W5.heap[S6]? = some (.cells (sv gen root U) 52 (0, 0)) by rw [hW5]; exact setRow_has XU.out)
    have RS := Lib.hid (show R ≠ S6 from SNE.out)
    have HW5 := Lib.hid hW5.symm
    refine g_skp (w' := W5) rfl rfl rfl (by rw [← HW5.out]; exact run_store_row52 (x := .tmp 6) (y := .tmp 28) rfl rfl rfl XU.out Z32.out SV32.out (sv_one _ _ _)) trivial ?_
    refine g_done (by kernel_rfl) ?_
    have RR := Lib.hid (show W5.heap[R]? = some (.cells (sv 0 0 E30) 52 (0, 0)) by rw [hW5, setRow_other _ _ _ _ RS.out]; exact RU.out)
    have BB := Lib.hid (show Below w.heap.size w W5 by rw [hW5]; exact below_setRow BU.out (by have h1 := row_lt R4.out; have h2 := B4.out.size; exact SGE.out) _)
    clear hW5 XU BU RU
    go_upto_region 5 with fail
    refine wp_region_lit ?_
    refine l_is (.load 52 (.tmp 6)) rfl rfl (run_ld_sup (x := .tmp 6) rfl rfl HU.out S5.out) ?_
    go_wp2_with fail
    refine (RIGHT.out _).mono ?_
    rintro e w7 ⟨rfl, hb7⟩
    have S7 := Lib.hid ((hb7.block S6 (row_lt S5.out)).trans S5.out)
    have R7 := Lib.hid ((hb7.block R (row_lt RR.out)).trans RR.out)
    have B7 := Lib.hid (BB.out.trans (hb7.mono BB.out.size))
    clear hb7
    go_upto_region 7 with fail
    refine wp_region_lit ?_
    refine l_is (.load 52 (.tmp 6)) rfl rfl (run_ld_sup (x := .tmp 6) rfl rfl HU.out S7.out) ?_
    refine wpList_store_row rfl 52 (.tmp 2) (.tmp 35) rfl R (sv gen root U) rfl rfl 52 (sv 0 0 E30) R7.out (by rw [SV32.out]; exact size52) (by rw [SV32.out, Z32.out]) (sv_one _ _ _) ?_
    go_wp2_with fail
    exact bodyPost_ret (results_sup rfl _ _ R 52 (sv gen root U) (0, 0) .nilIface rfl (setRow_has R7.out) SV32.out rfl) rfl ⟨rfl, below_setRow B7.out (by rw [HR.out]; exact Nat.le_refl _) _⟩
end Go.Proofs.YtnlolhlbpdmljaaGreatDoor
