/-
  Frames.
  Conditions: none.
-/
import Derived.Test.YtnlolhlbpdmljaaGreatDoorErrs
import Derived.Lib.BufferWrite
namespace Go.Proofs.YtnlolhlbpdmljaaGreatDoor
open Go.ChangeShapes Go.WideShapes Go.RowKit

set_option maxHeartbeats 400000 in
theorem fright_any (k : Nat) (l : B8) (h1 : 1 ≤ k) (h2 : k ≤ 255) (hl : l.length ≤ 120) (w : World) : Calls Tryz.prog 94 #[.int .i64 (k : Int), .string (strB l)] w fun e w' => e = .returned .nilIface ∧ w = w' := by
  have hd1 : decide ((k : Int) < 1) = false := decide_eq_false (by omega)
  have hd2 : decide ((255 : Int) < (k : Int)) = false := decide_eq_false (by omega)
  have hsz : (strB l).size = l.length := strB_size l
  have hd3 : decide ((120 : Int) < (l.length : Int)) = false := decide_eq_false (by omega)
  go_enter Tryz.func94, Tryz.ntmps94
  go_wp2
  go_ret
  exact ⟨rfl, rfl⟩
/-- Bytes as an array's cells. -/
def pv (p : B8) : Array Value := (cellsB p).toArray
theorem pv_size (p : B8) : (pv p).size = p.length := by unfold pv; simp [cellsB_length]
theorem pv_one (p : B8) : (pv p).all (·.oneCell') = true := by
  unfold pv cellsB; simp [Value.oneCell']
theorem pv_at {p : B8} {i : Nat} (h : i < p.length) : (pv p)[i]? = some (.int .u8 (p[i].toNat : Int)) := by
  unfold pv cellsB; simp [h]
theorem pv_set (p : B8) (i n : Nat) (hn : n < 256) : (pv p).setIfInBounds i (.int .u8 (n : Int)) = pv (p.set i (UInt8.ofNat n)) := by
  unfold pv cellsB
  simp [List.map_set]
  rw [show (n : Int) % 256 = n by omega]
def zeros (n : Nat) : B8 := List.replicate n 0
theorem zero39 : Tryz.zeroCells39 = pv (zeros 128) := by rfl
theorem size39 : (Tryz.prog.info? 39).map (·.size) = some 128 := by kernel_rfl
/-- A frame's bytes behind the sum. -/
def fbody (k : Nat) (l : B8) : B8 := [UInt8.ofNat k, UInt8.ofNat l.length] ++ l ++ zeros (122 - l.length)
def csum (b : B8) : Nat := un (sumP b)
def laidP (k : Nat) (l : B8) : B8 := be 4 (csum (fbody k l)) ++ fbody k l
theorem fbody_length {k : Nat} {l : B8} (h : l.length ≤ 122) : (fbody k l).length = 124 := by unfold fbody zeros; simp; omega
theorem laidP_length {k : Nat} {l : B8} (h : l.length ≤ 122) : (laidP k l).length = 128 := by unfold laidP; rw [List.length_append, be_length, fbody_length h]
section
variable {ρ : Operand → Value} {o : Oper}
theorem run_copy_str {x y : Operand} (ho : o.op = .call { callee := .builtin .copy, args := #[x, y], argTypes := #[94, 9] }) {g i n c : Nat} {l p : B8} {t : TypeId} {w : World} (hx : ρ x = .slice (some ⟨g, i, none⟩) n c) (hy : ρ y = .string (strB l))
    (hg : w.heap[g]? = some (.cells (pv p) t (0, 0))) (hn : l.length ≤ n) (hfit : i + l.length ≤ p.length) :
    (execOp ρ o).run Tryz.prog w = .ok (.value (.int .i64 (l.length : Int))) (w.setRow g (pv (p.take i ++ l ++ p.drop (i + l.length)))) := by
  have h := Go.Lib.run_copy_row_string (P := Tryz.prog) w 94 9 o.type 5 g i n c (strB l) (pv p) t Tryz.underlying94 size5' hg (by rw [strB_size]; exact hn) (by rw [strB_size, pv_size]; exact hfit)
  have e : ((pv p).toList.take i ++ Go.Lib.byteCells (strB l).data.toList ++ (pv p).toList.drop (i + (strB l).size)).toArray = pv (p.take i ++ l ++ p.drop (i + l.length)) := by
    rw [strB_list, strB_size]
    have e0 : Go.Lib.byteCells l = cellsB l := rfl
    have e1 : (pv p).toList = cellsB p := rfl
    have e2 : ∀ n, (cellsB p).take n = cellsB (p.take n) := fun n => by unfold cellsB; rw [List.map_take]
    have e3 : ∀ n, (cellsB p).drop n = cellsB (p.drop n) := fun n => by unfold cellsB; rw [List.map_drop]
    rw [e0, e1, e2, e3, ← cellsB_append, ← cellsB_append]
    rfl
  rw [e, strB_size] at h
  unfold execOp
  simp only [ho, resolve, invoke, builtin, Sem.run_bind, Sem.run_pure, Result.andThen_ok, List.map_toArray, List.map_cons, List.map_nil, hx, hy, h]
  rfl
end
section
variable {ρ : Operand → Value} {o : Oper}
theorem run_slice_all {x : Operand} (ho : o.op = .slice 39 x none none none) {g : Nat} (hx : ρ x = .pointer (some ⟨g, 0, none⟩)) (w : World) : (execOp ρ o).run Tryz.prog w = .ok (.value (.slice (some ⟨g, 0, none⟩) 128 128)) w := by
  unfold execOp; rw [ho]; simp [hx, go_sem]
theorem run_slice_from4 {x : Operand} (ho : o.op = .slice 39 x (some (.const (.int .i64 4))) none none) (hc : ρ (.const (.int .i64 4)) = .int .i64 4) {g : Nat} (hx : ρ x = .pointer (some ⟨g, 0, none⟩)) (w : World) : (execOp ρ o).run Tryz.prog w = .ok (.value (.slice (some ⟨g, 4, none⟩) 124 124)) w := by
  unfold execOp; rw [ho]; simp [hx, hc, go_sem]
theorem run_text_row {x : Operand} (ho : o.op = .convert 94 9 x) {g i n c : Nat} {p l : B8} {t : TypeId} {w : World} (hx : ρ x = .slice (some ⟨g, i, none⟩) n c) (hg : w.heap[g]? = some (.cells (pv p) t (0, 0))) (hl : (p.drop i).take n = l) (hn : l.length = n) :
    (execOp ρ o).run Tryz.prog w = .ok (.value (.string (strB l))) w := by
  have hr : (convert 94 9 (.slice (some ⟨g, i, none⟩) n c)).run Tryz.prog w = .ok (.string (strB l)) w := by
    rw [← hn]
    refine run_convert_bytes_back w 94 9 5 ⟨g, i, none⟩ c l Tryz.underlying94 Tryz.underlying5 Tryz.underlying9 (fun j hj => ?_)
    have hc := congrArg (fun t => t[j]?) hl
    simp only [List.getElem?_take, List.getElem?_drop] at hc
    rw [if_pos (by omega), List.getElem?_eq_getElem hj] at hc
    obtain ⟨hb, he⟩ := List.getElem?_eq_some_iff.1 hc
    rw [addr_add2, cell_of_row w g (i + j) _ t (0, 0) hg, pv_at hb, he]
  unfold execOp
  rw [ho]
  simp only [hx, Sem.run_bind, hr, Result.andThen_ok, Sem.run_pure]
theorem run_conv32 {x : Operand} (ho : o.op = .convert 44 3 x) {n : Nat} (hx : ρ x = .int .u32 (n : Int)) (hn : n < 4294967296) (w : World) : (execOp ρ o).run Tryz.prog w = .ok (.value (.int .i64 (n : Int))) w := by
  unfold execOp
  rw [ho]
  have : IntKind.i64.wrap (n : Int) = (n : Int) := by rw [IntKind.wrap_i64]; omega
  simp [go_sem, hx, this]
end
theorem setRow_has {w : World} {g : Nat} {cs cs' : Array Value} {t : TypeId} (h : w.heap[g]? = some (.cells cs t (0, 0))) : (w.setRow g cs').heap[g]? = some (.cells cs' t (0, 0)) := setRow_heap _ _ cs _ _ _ h
theorem csum_lt (b : B8) : csum b < 4294967296 := by unfold csum; exact un_lt _

set_option maxRecDepth 100000 in
set_option maxHeartbeats 2000000 in
theorem laid_any (k : Nat) (l : B8) (h1 : 1 ≤ k) (h2 : k ≤ 255) (hl : l.length ≤ 120) (w : World) : Calls Tryz.prog 95 #[.int .i64 (k : Int), .string (strB l)] w fun e w' => e = .returned (.agg (pv (laidP k l))) ∧ Below w.heap.size w w' := by
  have hsz : (strB l).size = l.length := strB_size l
  obtain ⟨R, hR⟩ : ∃ R, R = w.heap.size := ⟨_, rfl⟩
  obtain ⟨P, hP⟩ : ∃ P, P = w.heap.size + 1 := ⟨_, rfl⟩
  obtain ⟨p1, hp1⟩ : ∃ p, p = ([0, 0, 0, 0] ++ [UInt8.ofNat k, UInt8.ofNat l.length] ++ zeros 122 : B8) := ⟨_, rfl⟩
  have hp1l : p1.length = 128 := by rw [hp1]; simp [zeros]
  obtain ⟨W1, hW1⟩ : ∃ W, W = (w.alloc (.cells Tryz.zeroCells39 39)).alloc (.cells ((Tryz.zeroCells39.setIfInBounds 4 (.int .u8 (k : Int))).setIfInBounds 5 (.int .u8 (l.length : Int))) 39) := ⟨_, rfl⟩
  have hcur : (Tryz.zeroCells39.setIfInBounds 4 (.int .u8 (k : Int))).setIfInBounds 5 (.int .u8 (l.length : Int)) = pv p1 := by
    rw [zero39, pv_set _ _ _ (by omega), pv_set _ _ _ (by omega), hp1]
    rfl
  have hRP : R ≠ P := by omega
  have r1 : W1.heap[R]? = some (.cells (pv (zeros 128)) 39 (0, 0)) := by rw [hW1, hR, ← zero39]; exact heap_alloc2_old _ _ _
  have q1 : W1.heap[P]? = some (.cells (pv p1) 39 (0, 0)) := by rw [hW1, hP, hcur]; exact heap_alloc2_new _ _ _
  have b1 : Below w.heap.size w W1 := by rw [hW1]; exact ((Below.refl _ _).alloc (Nat.le_refl _) _).alloc (by simp) _
  obtain ⟨p2, hp2⟩ : ∃ p, p = (p1.take 6 ++ l ++ p1.drop (6 + l.length) : B8) := ⟨_, rfl⟩
  have hp2d : p2.drop 4 = fbody k l := by
    have t6 : p1.take 6 = [0, 0, 0, 0, UInt8.ofNat k, UInt8.ofNat l.length] := by rw [hp1]; rfl
    have d6 : p1.drop (6 + l.length) = zeros (122 - l.length) := by
      rw [hp1, List.drop_append]
      have e1 : ([0, 0, 0, 0] ++ [UInt8.ofNat k, UInt8.ofNat l.length] : B8).drop (6 + l.length) = [] := List.drop_eq_nil_of_le (by simp)
      have e2 : 6 + l.length - ([0, 0, 0, 0] ++ [UInt8.ofNat k, UInt8.ofNat l.length] : B8).length = l.length := by simp
      rw [e1, e2, List.nil_append]
      unfold zeros
      exact List.drop_replicate
    rw [hp2, t6, d6]
    rfl
  obtain ⟨W2, hW2⟩ : ∃ W, W = W1.setRow P (pv p2) := ⟨_, rfl⟩
  have r2 : W2.heap[R]? = some (.cells (pv (zeros 128)) 39 (0, 0)) := by rw [hW2, setRow_other _ _ _ _ hRP]; exact r1
  have q2 : W2.heap[P]? = some (.cells (pv p2) 39 (0, 0)) := by rw [hW2]; exact setRow_has q1
  have b2 : Below w.heap.size w W2 := by rw [hW2]; exact below_setRow b1 (by omega) _
  have COPY := Lib.hid q1
  have HW1 := Lib.hid hW1
  have HW2 := Lib.hid (show W1.setRow P (pv (p1.take 6 ++ l ++ p1.drop (6 + l.length))) = W2 by rw [hW2, hp2])
  have HP := Lib.hid hP
  have HR := Lib.hid hR
  have HLL := Lib.hid (show 6 + l.length ≤ p1.length by omega)
  have R2 := Lib.hid r2
  have Q2 := Lib.hid q2
  have B2 := Lib.hid b2
  have HD := Lib.hid hp2d
  have HRP := Lib.hid hRP
  have HPW := Lib.hid (show w.heap.size ≤ P ∧ w.heap.size ≤ R by omega)
  clear hR hP hp1 hp1l hW1 hcur hRP r1 q1 b1 hp2 hp2d hW2 r2 q2 b2
  go_enter Tryz.func95, Tryz.ntmps95
  go_upto_region 3 with fail
  rw [← HW1.out, ← HP.out, ← HR.out]
  go_upto_region 4 with (refine l_run rfl (run_copy_str (x := .tmp 13) (y := .tmp 14) rfl rfl rfl COPY.out (by omega) HLL.out) ?_)
  rw [HW2.out]
  obtain ⟨w4, hw4⟩ : ∃ u, u = W2.drew := ⟨_, rfl⟩
  have HD4 := Lib.hid hw4.symm
  have Q4 := Lib.hid (show w4.heap[P]? = some (.cells (pv p2) 39 (0, 0)) by rw [hw4]; exact Q2.out)
  have R4 := Lib.hid (show w4.heap[R]? = some (.cells (pv (zeros 128)) 39 (0, 0)) by rw [hw4]; exact R2.out)
  have B4 := Lib.hid (show Below w.heap.size w w4 by rw [hw4]; exact B2.out.drew)
  have HQB := Lib.hid (show ∀ w', Below w4.heap.size w4 w' → w'.heap[P]? = some (.cells (pv p2) 39 (0, 0)) from fun w' hb => (hb.block P (row_lt Q4.out)).trans Q4.out)
  have HFL := Lib.hid (fbody_length (k := k) (l := l) (by omega))
  have HTX := Lib.hid (show (p2.drop 4).take 124 = fbody k l by rw [HD.out]; exact List.take_of_length_le (by rw [HFL.out]; exact Nat.le_refl _))
  have HP2L := Lib.hid (show p2.length = 128 by have h := congrArg List.length HD.out; rw [HFL.out, List.length_drop] at h; omega)
  have BC := Lib.hid (Below.refl w4.heap.size w4)
  have SUM := Lib.hid (fun w => sum_any (strB (fbody k l)) (by rw [strB_size, HFL.out]; unfold maxLen; omega) w)
  have HSM := Lib.hid (show un (sumP (strB (fbody k l)).data.toList) = csum (fbody k l) by rw [strB_list]; rfl)
  rw [HSM.out] at SUM
  clear hw4 Q2 R2 B2
  refine g_region (fun w' => Below w.heap.size w w') 7 rfl (by kernel_rfl) ?_
  rw [HD4.out]
  refine g_take 0 rfl (some 16) rfl (by kernel_rfl) (by kernel_rfl) (by kernel_rfl) (fun _ _ _ h => h) rfl (fun w' hw' => run_slice_all (x := .tmp 5) rfl rfl w') B4.out ?_
  simp only [Act.put, List.setIfInBounds_toArray, List.set_cons_succ, List.set_cons_zero]
  refine g_take 1 rfl (some 17) rfl (by kernel_rfl) (by kernel_rfl) (by kernel_rfl) (fun _ _ _ h => h) rfl (fun w' hw' => run_slice_from4 (x := .tmp 5) rfl rfl rfl w') B4.out ?_
  simp only [Act.put, List.setIfInBounds_toArray, List.set_cons_succ, List.set_cons_zero]
  refine g_one 2 (by kernel_rfl) ?_
  refine g_val rfl (some 18) rfl rfl (run_text_row (x := .tmp 17) rfl rfl Q4.out HTX.out HFL.out) B4.out ?_
  simp only [Act.put, List.setIfInBounds_toArray, List.set_cons_succ, List.set_cons_zero]
  refine g_one 3 (by kernel_rfl) ?_
  refine g_call rfl (some 19) rfl rfl (run_call1 (u := .string (strB (fbody k l))) rfl Tryz.call18 rfl _) (SUM.out _) ?_
  rintro e w5 ⟨rfl, hb5⟩
  have C5 := Lib.hid hb5
  have B5 := Lib.hid (B4.out.trans (hb5.mono B4.out.size))
  refine ⟨_, rfl, B5.out, ?_⟩
  simp only [Act.put, List.setIfInBounds_toArray, List.set_cons_succ, List.set_cons_zero]
  refine g_take 4 rfl (some 20) rfl (by kernel_rfl) (by kernel_rfl) (by kernel_rfl) (fun _ _ _ h => h) rfl (fun w' hw' => run_conv32 (x := .tmp 19) rfl rfl (csum_lt _) w') B5.out ?_
  simp only [Act.put, List.setIfInBounds_toArray, List.set_cons_succ, List.set_cons_zero]
  refine g_one 5 (by kernel_rfl) ?_
  refine g_call rfl (some 21) rfl rfl (run_call2 (u := .int .i64 ((4 : Nat) : Int)) (v := .int .i64 (csum (fbody k l) : Int)) rfl Tryz.call68 rfl rfl _) (put_any 4 (csum (fbody k l)) (by omega) (by omega) (csum_lt _) _) ?_
  rintro e w6 ⟨rfl, hb6⟩
  have C6 := Lib.hid (C5.out.trans (hb6.mono C5.out.size))
  have Q6 := Lib.hid (HQB.out w6 C6.out)
  have R6 := Lib.hid ((C6.out.block R (row_lt R4.out)).trans R4.out)
  have B6 := Lib.hid (B4.out.trans (C6.out.mono B4.out.size))
  refine ⟨_, rfl, B6.out, ?_⟩
  simp only [Act.put, List.setIfInBounds_toArray, List.set_cons_succ, List.set_cons_zero]
  obtain ⟨w7, hw7⟩ : ∃ u, u = w6.setRow P (pv (p2.take 0 ++ be 4 (csum (fbody k l)) ++ p2.drop (0 + (be 4 (csum (fbody k l))).length))) := ⟨_, rfl⟩
  have HL := Lib.hid (show p2.take 0 ++ be 4 (csum (fbody k l)) ++ p2.drop (0 + (be 4 (csum (fbody k l))).length) = laidP k l by
    rw [be_length, show 0 + 4 = 4 from rfl, HD.out]; rfl)
  have Q7 := Lib.hid (show w7.heap[P]? = some (.cells (pv (laidP k l)) 39 (0, 0)) by rw [hw7, ← HL.out]; exact setRow_has Q6.out)
  have R7 := Lib.hid (show w7.heap[R]? = some (.cells (pv (zeros 128)) 39 (0, 0)) by rw [hw7, setRow_other _ _ _ _ HRP.out]; exact R6.out)
  have B7 := Lib.hid (show Below w.heap.size w w7 by rw [hw7]; exact below_setRow B6.out HPW.out.1 _)
  have HW7 := Lib.hid hw7.symm
  clear hw7
  refine g_one 6 (by kernel_rfl) ?_
  refine g_val (w' := w7) rfl (some 22) rfl rfl (by rw [← HW7.out]; exact run_copy_str (x := .tmp 16) (y := .tmp 21) rfl rfl rfl Q6.out (by rw [be_length]; omega) (by rw [be_length, HP2L.out]; omega)) B7.out ?_
  simp only [Act.put, List.setIfInBounds_toArray, List.set_cons_succ, List.set_cons_zero]
  refine g_done (by kernel_rfl) ?_
  have hlsz : (Tryz.prog.info? 39).map (·.size) = some (pv (laidP k l)).size := by rw [pv_size, laidP_length (by omega)]; exact size39
  have hosz : (pv (zeros 128)).size = (pv (laidP k l)).size := by rw [pv_size, pv_size, laidP_length (by omega)]; rfl
  go_wp2_with (first | (refine wpList_load_row rfl 39 (.tmp 5) rfl P rfl 39 (pv (laidP k l)) (0, 0) _ Q7.out Tryz.underlying39 rfl hlsz ?_) | (refine wpList_store_row rfl 39 (.tmp 4) (.tmp 23) rfl R (pv (laidP k l)) rfl rfl 39 (pv (zeros 128)) R7.out hlsz hosz (pv_one _) ?_))
  exact bodyPost_ret (results_cell_row rfl _ _ R 39 (pv (laidP k l)) (0, 0) _ rfl (setRow_has R7.out) Tryz.underlying39 rfl hlsz) rfl ⟨rfl, below_setRow B7.out HPW.out.2 _⟩
end Go.Proofs.YtnlolhlbpdmljaaGreatDoor
