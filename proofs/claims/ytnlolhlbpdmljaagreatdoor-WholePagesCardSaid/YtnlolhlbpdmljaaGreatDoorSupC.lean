/-
  Superblocks: right ones, laid. Superblocks laid and read. Superblocks read.
  Conditions: none.
-/
import Derived.Test.YtnlolhlbpdmljaaGreatDoorDiskF
namespace Go.Proofs.YtnlolhlbpdmljaaGreatDoor
open Go.ChangeShapes Go.WideShapes Go.RowKit

def svl (gen root : Nat) (U : List Nat) : List Value := .int .u32 (gen : Int) :: .int .i64 (root : Int) :: (U.map fun (b : Nat) => Value.int .u8 (b : Int))
def sv (gen root : Nat) (U : List Nat) : Array Value := (svl gen root U).toArray
def u8s (U : List Nat) : B8 := U.map UInt8.ofNat
def slay (gen root : Nat) (U : List Nat) : B8 := be 4 gen ++ be 1 root ++ u8s U
structure SOk (gen root : Nat) (U : List Nat) : Prop where
  set : Set30 U
  pos : 0 < gen
  gen : gen < 4294967296
  root : root = 0 ∨ (2 ≤ root ∧ root < 240 ∧ mem U root = true)
  no0 : mem U 0 = false
  no1 : mem U 1 = false
theorem sv_size {gen root : Nat} {U : List Nat} (h : Set30 U) : (sv gen root U).size = 32 := by unfold sv svl; simp [h.len]
theorem size52 : (Tryz.prog.info? 52).map (·.size) = some 32 := by kernel_rfl
theorem sv_one (gen root : Nat) (U : List Nat) : (sv gen root U).all (·.oneCell') = true := all_oneCell_toArray (fun v hv => by
  unfold svl at hv
  simp only [List.mem_cons, List.mem_map] at hv
  rcases hv with rfl | rfl | ⟨b, _, rfl⟩ <;> rfl)
theorem sv_range {w : World} {S : Nat} {gen root : Nat} {U : List Nat} {t : TypeId} {fr : Nat × Nat} (h : w.heap[S]? = some (.cells (sv gen root U) t fr)) : w.rangeAt S 2 (Bv U).toList := fun j v hj => by
  rw [cell_of_row w S _ _ t fr h, Nat.add_comm 2 j]
  unfold sv svl
  unfold Bv at hj
  simpa using hj
section
variable {ρ : Operand → Value} {o : Oper}
theorem run_ld_set {x : Operand} (ho : o.op = .load 50 x) {S k : Nat} (hx : ρ x = .pointer (some ⟨S, k, none⟩)) {U : List Nat} (hU : Set30 U) {w : World} (h : w.rangeAt S k (Bv U).toList) : (execOp ρ o).run Tryz.prog w = .ok (.value (.agg (Bv U))) w := by
  have hr := run_loadAt_mid (P := Tryz.prog) w S k 50 (Bv U).toList _ h Tryz.underlying50 rfl (by rw [Array.length_toList, Bv_size, hU.len]; exact size50)
  unfold execOp
  rw [ho]
  simp only [hx, Sem.run_bind, hr, Result.andThen_ok, Sem.run_pure, Array.toArray_toList]
theorem run_ld_sup {x : Operand} (ho : o.op = .load 52 x) {S : Nat} (hx : ρ x = .pointer (some ⟨S, 0, none⟩)) {gen root : Nat} {U : List Nat} (hU : Set30 U) {t : TypeId} {fr : Nat × Nat} {w : World} (h : w.heap[S]? = some (.cells (sv gen root U) t fr)) : (execOp ρ o).run Tryz.prog w = .ok (.value (.agg (sv gen root U))) w :=
  run_load_agg ho hx h Tryz.underlying52 rfl (by rw [sv_size hU]; exact size52)
end
section
variable {ops : Array Oper} {Q : Exit → Act → World → Prop} {a : Act} {o : Oper} {rest : List Oper} {w : World}
/-- One operation of a list that yields a value; which one it is comes first. -/
theorem l_is (p : Op) (_hp : o.op = p) (hw : Region.wanted o (yielded ops a.tmps) = true) {u : Value} (hr : (execOp a.eval o).run Tryz.prog w = .ok (.value u) w) (h : wpList Tryz.prog ops Q rest (a.put o.dst u) w) : wpList Tryz.prog ops Q (o :: rest) a w := l_val hw hr h
end
set_option maxRecDepth 100000 in
set_option maxHeartbeats 1000000 in
theorem sright_any (gen root : Nat) (U : List Nat) (h : SOk gen root U) (w : World) : Calls Tryz.prog 67 #[.agg (sv gen root U)] w fun e w' => e = .returned (.bool true) ∧ Below w.heap.size w w' := by
  obtain ⟨S, hS⟩ : ∃ S, S = w.heap.size := ⟨_, rfl⟩
  obtain ⟨W1, hW1⟩ : ∃ W, W = w.alloc (.cells (sv gen root U) 52) := ⟨_, rfl⟩
  have s1 : W1.heap[S]? = some (.cells (sv gen root U) 52 (0, 0)) := by rw [hW1, hS]; exact heap_alloc_new _ _
  have S1 := Lib.hid s1
  have B1 := Lib.hid (show Below w.heap.size w W1 by rw [hW1]; exact (Below.refl _ _).alloc (Nat.le_refl _) _)
  have HS := Lib.hid hS
  have HW1 := Lib.hid hW1
  have HU := Lib.hid h.set
  have c0 : W1.cell? ⟨S, 0, none⟩ = some (.int .u32 (gen : Int)) := cell_of_row W1 S 0 _ 52 (0, 0) s1
  have c1 : W1.cell? ⟨S, 1, none⟩ = some (.int .i64 (root : Int)) := cell_of_row W1 S 1 _ 52 (0, 0) s1
  have hp : 0 < gen := h.pos
  have h0 : hasP U 0 = false := by show hasP U ((0 : Nat) : Int) = false; rw [hasP_nat (by omega)]; exact h.no0
  have h1 : hasP U 1 = false := by show hasP U ((1 : Nat) : Int) = false; rw [hasP_nat (by omega)]; exact h.no1
  have HAS0 := Lib.hid (fun w => has_any U 0 w h.set)
  have HAS1 := Lib.hid (fun w => has_any U 1 w h.set)
  have HASR := Lib.hid (fun w => has_any U root w h.set)
  rw [h0] at HAS0
  rw [h1] at HAS1
  rcases h.root with hr | ⟨hr1, hr2, hr3⟩
  · subst hr
    clear h hS hW1 s1 h0 h1 HASR
    go_enter Tryz.func67, Tryz.ntmps67
    go_upto_region 1 with fail
    rw [← HW1.out, ← HS.out]
    go_wp2_with (with_reducible refine l_is (.load 50 (.tmp 26)) (u := .agg (Bv U)) ?_ ?_ ?_ ?_; exact rfl; exact want_is 6 25 true true true rfl rfl rfl rfl; exact run_ld_set (x := .tmp 26) rfl rfl HU.out (sv_range S1.out))
    refine (HAS0.out _).mono ?_
    rintro e w5 ⟨rfl, hb5⟩
    have S5 := Lib.hid ((hb5.block S (row_lt S1.out)).trans S1.out)
    have B5 := Lib.hid (B1.out.trans (hb5.mono B1.out.size))
    clear hb5
    go_wp2_with (with_reducible refine l_is (.load 50 (.tmp 32)) (u := .agg (Bv U)) ?_ ?_ ?_ ?_; exact rfl; exact want_is 12 31 true true true rfl rfl rfl rfl; exact run_ld_set (x := .tmp 32) rfl rfl HU.out (sv_range S5.out))
    refine (HAS1.out _).mono ?_
    rintro e w6 ⟨rfl, hb6⟩
    have B6 := Lib.hid (B5.out.trans (hb6.mono B5.out.size))
    clear hb6
    go_wp2_with fail
    go_ret
    exact ⟨rfl, B6.out⟩
  · have e0 : ((root : Int) == 0) = false := by rw [beq_eq_false_iff_ne]; omega
    have e1 : decide ((2 : Int) ≤ (root : Int)) = true := decide_eq_true (by omega)
    have e2 : hasP U (root : Int) = true := by rw [hasP_nat hr2]; exact hr3
    rw [e2] at HASR
    clear h hS hW1 s1 h0 h1 hr1 hr2 hr3 e2
    go_enter Tryz.func67, Tryz.ntmps67
    go_upto_region 1 with fail
    rw [← HW1.out, ← HS.out]
    go_wp2_with (with_reducible refine l_is (.load 50 (.tmp 12)) (u := .agg (Bv U)) ?_ ?_ ?_ ?_; exact rfl; exact (want_is 7 11 true true true rfl rfl rfl rfl); exact run_ld_set (x := .tmp 12) rfl rfl HU.out (sv_range S1.out))
    refine (HASR.out _).mono ?_
    rintro e w3 ⟨rfl, hb3⟩
    have s3 := (hb3.block S (row_lt S1.out)).trans S1.out
    have S3 := Lib.hid s3
    have B3 := Lib.hid (B1.out.trans (hb3.mono B1.out.size))
    have c0' : w3.cell? ⟨S, 0, none⟩ = some (.int .u32 (gen : Int)) := cell_of_row w3 S 0 _ 52 (0, 0) s3
    clear hb3 s3
    go_wp2_with (with_reducible refine l_is (.load 50 (.tmp 26)) (u := .agg (Bv U)) ?_ ?_ ?_ ?_; exact rfl; exact want_is 6 25 true true true rfl rfl rfl rfl; exact run_ld_set (x := .tmp 26) rfl rfl HU.out (sv_range S3.out))
    refine (HAS0.out _).mono ?_
    rintro e w5 ⟨rfl, hb5⟩
    have S5 := Lib.hid ((hb5.block S (row_lt S3.out)).trans S3.out)
    have B5 := Lib.hid (B3.out.trans (hb5.mono B3.out.size))
    clear hb5
    go_wp2_with (with_reducible refine l_is (.load 50 (.tmp 32)) (u := .agg (Bv U)) ?_ ?_ ?_ ?_; exact rfl; exact want_is 12 31 true true true rfl rfl rfl rfl; exact run_ld_set (x := .tmp 32) rfl rfl HU.out (sv_range S5.out))
    refine (HAS1.out _).mono ?_
    rintro e w6 ⟨rfl, hb6⟩
    have B6 := Lib.hid (B5.out.trans (hb6.mono B5.out.size))
    clear hb6
    go_wp2_with fail
    go_ret
    exact ⟨rfl, B6.out⟩
end Go.Proofs.YtnlolhlbpdmljaaGreatDoor
namespace Go.Proofs.YtnlolhlbpdmljaaGreatDoor
open Go.ChangeShapes Go.WideShapes Go.RowKit
section
variable {ρ : Operand → Value} {o : Oper}
theorem run_fld52_0 {x : Operand} (ho : o.op = .fieldAddr 52 x 0) {d : Nat} (hx : ρ x = .pointer (some ⟨d, 0, none⟩)) (w : World) : (execOp ρ o).run Tryz.prog w = .ok (.value (.pointer (some ⟨d, 0, none⟩))) w := by
  unfold execOp; rw [ho]; simp [hx, go_sem]
theorem run_fld52_1 {x : Operand} (ho : o.op = .fieldAddr 52 x 1) {d : Nat} (hx : ρ x = .pointer (some ⟨d, 0, none⟩)) (w : World) : (execOp ρ o).run Tryz.prog w = .ok (.value (.pointer (some ⟨d, 1, none⟩))) w := by
  unfold execOp; rw [ho]; simp [hx, go_sem]
theorem run_fld52_2 {x : Operand} (ho : o.op = .fieldAddr 52 x 2) {d : Nat} (hx : ρ x = .pointer (some ⟨d, 0, none⟩)) (w : World) : (execOp ρ o).run Tryz.prog w = .ok (.value (.pointer (some ⟨d, 2, none⟩))) w := by
  unfold execOp; rw [ho]; simp [hx, go_sem]
theorem strB_append (l m : B8) : strB l ++ strB m = strB (l ++ m) := by unfold strB; rw [ByteArray.ext_iff]; simp
theorem run_add_str {x y : Operand} {t' : TypeId} (ho : o.op = .binOp .add 9 x y t') {l m : B8} (hx : ρ x = .string (strB l)) (hy : ρ y = .string (strB m)) (hl : l.length + m.length ≤ 1000000) (w : World) : (execOp ρ o).run Tryz.prog w = .ok (.value (.string (strB (l ++ m)))) w := by
  unfold execOp
  rw [ho]
  have hs : (strB l).size + (strB m).size ≤ 9223372036854775807 := by rw [strB_size, strB_size]; omega
  simp [hx, hy, go_sem, eqGuard, strB_append, hs]
theorem run_slice50 {x : Operand} (ho : o.op = .slice 50 x none none none) {g : Nat} (hx : ρ x = .pointer (some ⟨g, 2, none⟩)) (w : World) : (execOp ρ o).run Tryz.prog w = .ok (.value (.slice (some ⟨g, 2, none⟩) 30 30)) w := by
  unfold execOp; rw [ho]; simp [hx, go_sem]
theorem run_text_range {x : Operand} (ho : o.op = .convert 94 9 x) {g i n c : Nat} {l : B8} {w : World} (hx : ρ x = .slice (some ⟨g, i, none⟩) n c) (hl : l.length = n) (h : w.rangeAt g i (cellsB l)) : (execOp ρ o).run Tryz.prog w = .ok (.value (.string (strB l))) w := by
  have hr : (convert 94 9 (.slice (some ⟨g, i, none⟩) n c)).run Tryz.prog w = .ok (.string (strB l)) w := by
    rw [← hl]
    refine run_convert_bytes_back w 94 9 5 ⟨g, i, none⟩ c l Tryz.underlying94 Tryz.underlying5 Tryz.underlying9 (fun j hj => ?_)
    rw [addr_add2]
    refine h j _ ?_
    unfold cellsB
    simp [hj]
  unfold execOp
  rw [ho]
  simp only [hx, Sem.run_bind, hr, Result.andThen_ok, Sem.run_pure]
end
theorem u8s_length (U : List Nat) : (u8s U).length = U.length := by unfold u8s; simp
theorem u8s_cells {U : List Nat} (hU : Set30 U) : cellsB (u8s U) = (Bv U).toList := by
  unfold cellsB u8s Bv
  rw [List.map_map, List.toList_toArray]
  apply List.map_congr_left
  intro b hb
  have := hU.byte b hb
  simp; omega
theorem slay_length {gen root : Nat} {U : List Nat} (hU : Set30 U) : (slay gen root U).length = 35 := by unfold slay; simp [be_length, u8s_length, hU.len]
set_option maxRecDepth 100000 in
set_option maxHeartbeats 1000000 in
theorem slay_any (gen root : Nat) (U : List Nat) (h : SOk gen root U) (w : World) : Calls Tryz.prog 39 #[.agg (sv gen root U)] w fun e w' => e = .returned (.tuple #[.string (strB (slay gen root U)), .nilIface]) ∧ Below w.heap.size w w' := by
  obtain ⟨S, hS⟩ : ∃ S, S = w.heap.size := ⟨_, rfl⟩
  obtain ⟨W1, hW1⟩ : ∃ W, W = w.alloc (.cells (sv gen root U) 52) := ⟨_, rfl⟩
  have S1 := Lib.hid (show W1.heap[S]? = some (.cells (sv gen root U) 52 (0, 0)) by rw [hW1, hS]; exact heap_alloc_new _ _)
  have B1 := Lib.hid (show Below w.heap.size w W1 by rw [hW1]; exact (Below.refl _ _).alloc (Nat.le_refl _) _)
  have HS := Lib.hid hS
  have HW1 := Lib.hid hW1
  have HU := Lib.hid h.set
  have HG := Lib.hid h.gen
  have HRT := Lib.hid (show root < 256 by rcases h.root with h | h <;> omega)
  have RIGHT := Lib.hid (fun w => sright_any gen root U h w)
  clear h hS hW1
  go_enter Tryz.func39, Tryz.ntmps39
  go_upto_region 1 with fail
  rw [← HW1.out, ← HS.out]
  refine wp_region_lit ?_
  refine l_is (.load 52 (.tmp 1)) rfl rfl (run_ld_sup (x := .tmp 1) rfl rfl HU.out S1.out) ?_
  go_wp2_with fail
  refine (RIGHT.out _).mono ?_
  rintro e w2 ⟨rfl, hb2⟩
  have S2 := Lib.hid ((hb2.block S (row_lt S1.out)).trans S1.out)
  have B2 := Lib.hid (B1.out.trans (hb2.mono B1.out.size))
  have SL := Lib.hid (row_lt S2.out)
  clear hb2
  go_upto_region 3 with fail
  have CS := Lib.hid (show ∀ w', Below w2.heap.size w2 w' → w'.heap[S]? = some (.cells (sv gen root U) 52 (0, 0)) from fun w' hw' => (hw'.block S SL.out).trans S2.out)
  refine r_region (fun w' => Below w2.heap.size w2 w') (by kernel_rfl) (by kernel_rfl) (Below.refl _ _).drew ?_
  refine r_val rfl (fun w' hw' => run_fld52_0 (x := .tmp 1) rfl rfl w') ?_
  simp only [Act.put, List.setIfInBounds_toArray, List.set_cons_succ, List.set_cons_zero]
  refine r_val rfl (fun w' hw' => run_load_int (x := .tmp 9) (v := .int .u32 (gen : Int)) rfl Tryz.underlying44 rfl (cell_of_row w' S 0 _ 52 (0, 0) (CS.out w' hw'))) ?_
  simp only [Act.put, List.setIfInBounds_toArray, List.set_cons_succ, List.set_cons_zero]
  refine r_val rfl (fun w' hw' => run_conv32 (x := .tmp 10) rfl rfl HG.out w') ?_
  simp only [Act.put, List.setIfInBounds_toArray, List.set_cons_succ, List.set_cons_zero]
  refine r_call rfl (args := #[(.int .i64 ((4 : Nat) : Int)), (.int .i64 (gen : Int))]) (fun w' hw' => run_call2 (u := (.int .i64 ((4 : Nat) : Int))) (v := (.int .i64 (gen : Int))) rfl Tryz.call68 rfl rfl w') (fun w' hw' => (put_any 4 gen (by omega) (by omega) (by have := HG.out; omega) w').mono (fun e w'' ⟨he, hb⟩ => ⟨he, hw'.trans (hb.mono hw'.size)⟩)) ?_
  simp only [Act.put, List.setIfInBounds_toArray, List.set_cons_succ, List.set_cons_zero]
  refine r_val rfl (fun w' hw' => run_fld52_1 (x := .tmp 1) rfl rfl w') ?_
  simp only [Act.put, List.setIfInBounds_toArray, List.set_cons_succ, List.set_cons_zero]
  refine r_val rfl (fun w' hw' => run_load_int (x := .tmp 13) (v := .int .i64 (root : Int)) rfl Tryz.underlying3 rfl (cell_of_row w' S 1 _ 52 (0, 0) (CS.out w' hw'))) ?_
  simp only [Act.put, List.setIfInBounds_toArray, List.set_cons_succ, List.set_cons_zero]
  refine r_call rfl (args := #[(.int .i64 ((1 : Nat) : Int)), (.int .i64 (root : Int))]) (fun w' hw' => run_call2 (u := (.int .i64 ((1 : Nat) : Int))) (v := (.int .i64 (root : Int))) rfl Tryz.call68 rfl rfl w') (fun w' hw' => (put_any 1 root (by omega) (by omega) (by have := HRT.out; omega) w').mono (fun e w'' ⟨he, hb⟩ => ⟨he, hw'.trans (hb.mono hw'.size)⟩)) ?_
  simp only [Act.put, List.setIfInBounds_toArray, List.set_cons_succ, List.set_cons_zero]
  refine r_val rfl (fun w' hw' => run_add_str (x := .tmp 12) (y := .tmp 15) rfl rfl rfl (by simp [be_length]) w') ?_
  simp only [Act.put, List.setIfInBounds_toArray, List.set_cons_succ, List.set_cons_zero]
  refine r_val rfl (fun w' hw' => run_fld52_2 (x := .tmp 1) rfl rfl w') ?_
  simp only [Act.put, List.setIfInBounds_toArray, List.set_cons_succ, List.set_cons_zero]
  refine r_val rfl (fun w' hw' => run_slice50 (x := .tmp 17) rfl rfl w') ?_
  simp only [Act.put, List.setIfInBounds_toArray, List.set_cons_succ, List.set_cons_zero]
  refine r_val rfl (fun w' hw' => run_text_range (x := .tmp 18) rfl rfl (by rw [u8s_length, HU.out.len]) (by rw [u8s_cells HU.out]; exact sv_range (CS.out w' hw'))) ?_
  simp only [Act.put, List.setIfInBounds_toArray, List.set_cons_succ, List.set_cons_zero]
  refine r_val rfl (fun w' hw' => run_add_str (x := .tmp 16) (y := .tmp 19) rfl rfl rfl (by simp [be_length, u8s_length, HU.out.len]) w') ?_
  simp only [Act.put, List.setIfInBounds_toArray, List.set_cons_succ, List.set_cons_zero]
  refine r_val rfl (fun w' hw' => run_assign_is (.tmp 20) (.string (strB (slay gen root U))) rfl rfl w') ?_
  simp only [Act.put, List.setIfInBounds_toArray, List.set_cons_succ, List.set_cons_zero]
  refine r_val rfl (fun w' hw' => run_assign_is (.const .nilIface) (.nilIface) rfl rfl w') ?_
  simp only [Act.put, List.setIfInBounds_toArray, List.set_cons_succ, List.set_cons_zero]
  refine r_nil ?_
  intro w3 hw3
  have B3 := Lib.hid (B2.out.trans (hw3.mono B2.out.size))
  clear hw3
  go_wp2_with fail
  go_ret2
  exact ⟨rfl, B3.out⟩
end Go.Proofs.YtnlolhlbpdmljaaGreatDoor
namespace Go.Proofs.YtnlolhlbpdmljaaGreatDoor
open Go.ChangeShapes Go.WideShapes Go.RowKit
def E30 : List Nat := List.replicate 30 0
theorem E30_set : Set30 E30 := ⟨rfl, fun b hb => by rw [List.eq_of_mem_replicate hb]; omega⟩
theorem info52 : (Tryz.prog.info? 52).map (fun i => (i.zero, i.size, i.bytes)) = some (some (.agg (sv 0 0 E30)), 32, 48) := by kernel_rfl
section
variable {ρ : Operand → Value} {o : Oper}
theorem run_alloc52 (ho : o.op = .alloc 52) (w : World) : (execOp ρ o).run Tryz.prog w = .ok (.value (.pointer (some ⟨w.heap.size, 0, none⟩))) (w.alloc (.cells (sv 0 0 E30) 52)) := by
  obtain ⟨i0, hi0, hz0, hz1, hz2⟩ := info_parts info52
  have hr : (Instr.alloc 52 true (.tuple #[])).run Tryz.prog w = .ok (.pointer (some ⟨w.heap.size, 0, none⟩)) (w.alloc (.cells (sv 0 0 E30) 52)) := by
    simp [Instr.alloc, zeroValue, typeInfo, hi0, hz0, newVar, newRow, Value.cells]
  unfold execOp
  rw [ho]
  simp only [Sem.run_bind, hr, Result.andThen_ok, Sem.run_pure]
theorem run_conv_3_44 {x : Operand} (ho : o.op = .convert 3 44 x) {n : Nat} (hx : ρ x = .int .i64 (n : Int)) (hn : n < 4294967296) (w : World) : (execOp ρ o).run Tryz.prog w = .ok (.value (.int .u32 (n : Int))) w := by
  unfold execOp
  rw [ho]
  have : IntKind.u32.wrap (n : Int) = (n : Int) := by unfold IntKind.wrap; simp [IntKind.signed, IntKind.bits]; omega
  simp [go_sem, hx, this]
theorem run_idx4 {x : Operand} (ho : o.op = .index 9 x (.const (.int .i64 4))) (hc : ρ (.const (.int .i64 4)) = .int .i64 4) {l : B8} {b : UInt8} (hx : ρ x = .string (strB l)) (hb : l[4]? = some b) (w : World) : (execOp ρ o).run Tryz.prog w = .ok (.value (.int .u8 (b.toNat : Int))) w := by
  have hl : 4 < (strB l).size := by rw [strB_size]; exact (List.getElem?_eq_some_iff.1 hb).1
  have he : (strB l)[4]'hl = b := by
    have := (List.getElem?_eq_some_iff.1 hb).2
    rw [← this]; rfl
  unfold execOp; rw [ho]; simp [hx, hc, go_sem, he]
  intro h; exact absurd h (by omega)
theorem run_slc5 {x : Operand} (ho : o.op = .slice 9 x (some (.const (.int .i64 5))) none none) (hc : ρ (.const (.int .i64 5)) = .int .i64 5) {l m : B8} (hx : ρ x = .string (strB l)) (hl : 5 ≤ l.length) (hm : l.drop 5 = m) (w : World) : (execOp ρ o).run Tryz.prog w = .ok (.value (.string (strB m))) w := by
  have hl' : 5 ≤ (strB l).size := by rw [strB_size]; exact hl
  have he : (strB l).extract 5 (strB l).size = strB m := by
    rw [← hm, strB_size]
    unfold strB
    rw [ByteArray.ext_iff]
    simp
    exact List.take_of_length_le (by simp)
  unfold execOp; rw [ho]; simp [hx, hc, go_sem, he]
  intro h; exact absurd h (by omega)
/-- A text's bytes in a row anew. -/
theorem run_bytes_new (l : B8) (w : World) : ∃ c w', (∀ (ρ : Operand → Value) (o : Oper) (x : Operand), o.op = .convert 9 94 x → ρ x = .string (strB l) → (execOp ρ o).run Tryz.prog w = .ok (.value (.slice (some ⟨w.heap.size, 0, none⟩) l.length c)) w') ∧ Below w.heap.size w w' ∧ w'.rangeAt w.heap.size 0 (cellsB l) ∧ w.heap.size < w'.heap.size := by
  have hr := run_bytes_of_string (P := Tryz.prog) w 9 94 5 (strB l) Tryz.underlying9 Tryz.underlying94 Tryz.underlying5
  rw [strB_size] at hr
  obtain ⟨cap, hcap⟩ : ∃ c, c = grownCap w l.length 0 5 := ⟨_, rfl⟩
  rw [← hcap] at hr
  obtain ⟨W', hW'⟩ : ∃ W', W' = w.drew.alloc (.cells (bytesRow (strB l) cap) 5 ((bytesRow (strB l) cap).size, (bytesRow (strB l) cap).size + 1)) := ⟨_, rfl⟩
  rw [← hW'] at hr
  have hc : W'.heap[w.heap.size]? = some (.cells (bytesRow (strB l) cap) 5 ((bytesRow (strB l) cap).size, (bytesRow (strB l) cap).size + 1)) := by rw [hW']; exact heap_alloc_new w.drew _
  refine ⟨cap, W', ?_, by rw [hW']; exact (Below.refl _ _).drew.alloc (Nat.le_refl _) _, ?_, row_lt hc⟩
  · intro ρ o x ho hx
    unfold execOp
    rw [ho]
    simp only [hx, Sem.run_bind, hr, Result.andThen_ok, Sem.run_pure]
  · intro j v hj
    rw [cell_of_row _ _ _ _ _ _ hc, Nat.zero_add]
    have hjl : j < l.length := by
      rcases Nat.lt_or_ge j l.length with h | h
      · exact h
      · unfold cellsB at hj; rw [List.getElem?_eq_none (by simpa using h)] at hj; cases hj
    rw [bytesRow_at (strB l) _ j (by rw [ByteArray.size_data, strB_size]; exact hjl), ← hj]
    unfold cellsB strB
    simp [hjl]
theorem run_arr50 {x : Operand} (ho : o.op = .sliceToArrayPointer 50 x) {a : Option Addr} {c : Nat} (hx : ρ x = .slice a 30 c) (w : World) : (execOp ρ o).run Tryz.prog w = .ok (.value (.pointer a)) w := by
  unfold execOp; rw [ho]; simp [hx, go_sem, Instr.arrayAt, run_underlying Tryz.underlying50]
theorem run_build52 {x y z : Operand} (ho : o.op = .build 52 #[(0, x), (1, y), (2, z)]) {gen root : Nat} {U : List Nat} (hU : Set30 U) (hx : ρ x = .int .u32 (gen : Int)) (hy : ρ y = .int .i64 (root : Int)) (hz : ρ z = .agg (Bv U)) (w : World) : (execOp ρ o).run Tryz.prog w = .ok (.value (.agg (sv gen root U))) w := by
  obtain ⟨i0, hi0, hz0, hz1, hz2⟩ := info_parts info52
  have hs : (Bv U).size = 30 := by rw [Bv_size, hU.len]
  have hb : Array.foldl (fun cs (x : Value × Nat) => cs.setIfInBounds (2 + x.snd) x.fst) (((sv 0 0 E30).setIfInBounds 0 (.int .u32 (gen : Int))).setIfInBounds 1 (.int .i64 (root : Int))) (Bv U).zipIdx 0 30 = sv gen root U := by
    have e : (Bv U).zipIdx = (((Bv U).toList).zipIdx 0).toArray := by unfold Bv; simp
    rw [e, List.foldl_toArray' (h := by simp [hs])]
    obtain ⟨h1, h2⟩ := fold_set (Bv U).toList 2 0 (((sv 0 0 E30).setIfInBounds 0 (.int .u32 (gen : Int))).setIfInBounds 1 (.int .i64 (root : Int)))
    have hz32 : (((sv 0 0 E30).setIfInBounds 0 (.int .u32 (gen : Int))).setIfInBounds 1 (.int .i64 (root : Int))).size = 32 := by simp [sv_size E30_set]
    rw [hz32] at h1
    apply Array.ext_getElem?
    intro j
    by_cases hj : j < 32
    · rw [h2 j (by rw [hz32]; exact hj), Array.length_toList, hs]
      unfold sv svl
      match j with
      | 0 => rfl
      | 1 => rfl
      | j + 2 =>
        rw [if_pos (by omega)]
        unfold Bv
        simp
    · rw [Array.getElem?_eq_none (by omega), Array.getElem?_eq_none (by rw [sv_size hU]; omega)]
  unfold execOp
  rw [ho]
  simp [go_sem, hx, hy, hz, hs]
  exact hb
end
end Go.Proofs.YtnlolhlbpdmljaaGreatDoor
