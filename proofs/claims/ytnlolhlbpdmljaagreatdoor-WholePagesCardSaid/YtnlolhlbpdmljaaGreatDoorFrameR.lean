/-
  Frames laid, stored in a page and read back.
  Conditions: the kind is 1 to 255, the data has at most 120 bytes.
-/
import Derived.Test.YtnlolhlbpdmljaaGreatDoorFrame
import Derived.Laws.ResultCell
namespace Go.Proofs.YtnlolhlbpdmljaaGreatDoor
open Go.ChangeShapes Go.WideShapes Go.RowKit

theorem results_page {fn : Func} {p u : Tmp} (h : fn.results = #[.cell p 39, .tmp u]) (tmps : Array Value) (w : World) (g : Nat) (t : TypeId) (cs : Array Value) (fr : Nat × Nat) (v : Value)
    (hp : tmps.getD p undef = .pointer (some ⟨g, 0, none⟩)) (hg : w.heap[g]? = some (.cells cs t fr)) (hi : (Tryz.prog.info? 39).map (·.size) = some cs.size) (hv : tmps.getD u undef = v) :
    (results fn tmps).run Tryz.prog w = .ok (.tuple #[.agg cs, v]) w := by
  rw [results_cell_tmp h, hp, hv]
  simp only [asAddr, Sem.run_pure, Result.andThen_ok, run_loadVar_row w g t 39 cs fr _ hg Tryz.underlying39 rfl hi]
theorem run_neq_page {ρ : Operand → Value} {o : Oper} {x y : Operand} (ho : o.op = .binOp .neq 39 x y 39) {p q : B8} (hx : ρ x = .agg (pv p)) (hy : ρ y = .agg (pv q)) (hp : p.length = 128) (hq : q.length = 128) (w : World) : (execOp ρ o).run Tryz.prog w = .ok (.value (.bool (decide (p ≠ q)))) w := by
  obtain ⟨f, hf⟩ : ∃ f : Nat → Int, ∀ i, i < 128 → (pv p)[i]? = some (.int .u8 (f i)) := ⟨fun i => ((p.getD i 0).toNat : Int), fun i hi => by show _ = some (Value.int .u8 ((p.getD i 0).toNat : Int)); rw [pv_at (by omega), List.getD_eq_getElem?_getD, List.getElem?_eq_getElem (by omega)]; rfl⟩
  obtain ⟨g, hg⟩ : ∃ f : Nat → Int, ∀ i, i < 128 → (pv q)[i]? = some (.int .u8 (f i)) := ⟨fun i => ((q.getD i 0).toNat : Int), fun i hi => by show _ = some (Value.int .u8 ((q.getD i 0).toNat : Int)); rw [pv_at (by omega), List.getD_eq_getElem?_getD, List.getElem?_eq_getElem (by omega)]; rfl⟩
  have hr : alikeFrom f g 0 128 = decide (p = q) := by
    rw [Bool.eq_iff_iff, alikeFrom_iff, decide_eq_true_eq]
    constructor
    · intro h
      apply List.ext_getElem (by omega)
      intro i h1 h2
      have e := h i (by omega) (by omega)
      have e1 := hf i (by omega)
      have e2 := hg i (by omega)
      rw [pv_at h1] at e1
      rw [pv_at h2] at e2
      injection e1 with e1
      injection e2 with e2
      injection e1 with _ e1
      injection e2 with _ e2
      have : p[i].toNat = q[i].toNat := by omega
      exact UInt8.toNat_inj.1 this
    · intro h j _ hj
      subst h
      have e1 := hf j (by omega)
      have e2 := hg j (by omega)
      rw [e1] at e2
      injection e2 with e2
      injection e2
  have h : (binOp .neq 39 (.agg (pv p)) (.agg (pv q))).run Tryz.prog w = .ok (.bool (decide (p ≠ q))) w := by
    show (do pure (.bool (!(← Op.equalIn (9999 + 1) 39 (.agg (pv p)) (.agg (pv q))))) : Sem Value).run Tryz.prog w = _
    simp only [Sem.run_bind, run_equal_ints 9998 Tryz.underlying39 Tryz.underlying5 size5' (pv p) (pv q) f g hf hg w, Result.andThen_ok, Sem.run_pure, hr]
    by_cases e : p = q <;> simp [e]
  unfold execOp
  rw [ho]
  simp only [hx, hy, Sem.run_bind, run_eqGuard_agg (P := Tryz.prog) w .neq 39 x y (pv p) (pv q) (by kernel_rfl), Result.andThen_ok, h, Sem.run_pure]
set_option maxRecDepth 100000 in
set_option maxHeartbeats 1000000 in
theorem flay_any (k : Nat) (l : B8) (h1 : 1 ≤ k) (h2 : k ≤ 255) (hl : l.length ≤ 120) (w : World) : Calls Tryz.prog 69 #[.int .i64 (k : Int), .string (strB l)] w fun e w' => e = .returned (.tuple #[.agg (pv (laidP k l)), .nilIface]) ∧ Below w.heap.size w w' := by
  obtain ⟨R, hR⟩ : ∃ R, R = w.heap.size := ⟨_, rfl⟩
  obtain ⟨W1, hW1⟩ : ∃ W, W = w.alloc (.cells Tryz.zeroCells39 39) := ⟨_, rfl⟩
  have R1 := Lib.hid (show W1.heap[R]? = some (.cells (pv (zeros 128)) 39 (0, 0)) by rw [hW1, hR, ← zero39]; exact heap_alloc_new _ _)
  have B1 := Lib.hid (show Below w.heap.size w W1 by rw [hW1]; exact (Below.refl _ _).alloc (Nat.le_refl _) _)
  have HR := Lib.hid hR
  have HW1 := Lib.hid hW1
  have hlsz : (Tryz.prog.info? 39).map (·.size) = some (pv (laidP k l)).size := by rw [pv_size, laidP_length (by omega)]; exact size39
  have hosz : (pv (zeros 128)).size = (pv (laidP k l)).size := by rw [pv_size, pv_size, laidP_length (by omega)]; rfl
  have FR := Lib.hid (fun w => fright_any k l h1 h2 hl w)
  have LA := Lib.hid (fun w => laid_any k l h1 h2 hl w)
  clear hR hW1
  go_enter Tryz.func69, Tryz.ntmps69
  go_wp2_with fail
  rw [← HW1.out, ← HR.out]
  refine (FR.out _).mono ?_
  rintro e w1 ⟨rfl, rfl⟩
  go_wp2_with fail
  refine (LA.out _).mono ?_
  rintro e w2 ⟨rfl, hb2⟩
  have R2 := Lib.hid ((hb2.block R (row_lt R1.out)).trans R1.out)
  have B2 := Lib.hid (B1.out.trans (hb2.mono B1.out.size))
  clear hb2
  go_wp2_with (refine wpList_store_row rfl 39 (.tmp 4) (.tmp 16) rfl R (pv (laidP k l)) rfl rfl 39 (pv (zeros 128)) R2.out hlsz hosz (pv_one _) ?_)
  exact bodyPost_ret (results_page rfl _ _ R 39 (pv (laidP k l)) (0, 0) .nilIface rfl (setRow_has R2.out) hlsz rfl) rfl ⟨rfl, below_setRow B2.out (by rw [HR.out]; exact Nat.le_refl _) _⟩

theorem run_conv8 {ρ : Operand → Value} {o : Oper} {x : Operand} (ho : o.op = .convert 5 3 x) {n : Nat} (hx : ρ x = .int .u8 (n : Int)) (hn : n < 256) (w : World) : (execOp ρ o).run Tryz.prog w = .ok (.value (.int .i64 (n : Int))) w := by
  unfold execOp
  rw [ho]
  have : IntKind.i64.wrap (n : Int) = (n : Int) := by rw [IntKind.wrap_i64]; omega
  simp [go_sem, hx, this]
theorem run_add_is {ρ : Operand → Value} {o : Oper} {t t' : TypeId} {x y : Operand} (ho : o.op = .binOp .add t x y t') {a b : Int} (hx : ρ x = .int .i64 a) (hy : ρ y = .int .i64 b) (r : Int) (hr : a + b = r ∧ -9223372036854775808 ≤ r ∧ r ≤ 9223372036854775807) (w : World) : (execOp ρ o).run Tryz.prog w = .ok (.value (.int .i64 r)) w := by
  obtain ⟨rfl, h⟩ := hr
  have h := IntWalk.i64_in _ h
  unfold execOp
  rw [ho]
  simp [hx, hy, go_sem, eqGuard, h]
theorem run_at_page {ρ : Operand → Value} {o : Oper} {x : Operand} (ho : o.op = .indexAddr 39 x (.const (.int .i64 4))) (hc : ρ (.const (.int .i64 4)) = .int .i64 4) {g : Nat} (hx : ρ x = .pointer (some ⟨g, 0, none⟩)) (w : World) : (execOp ρ o).run Tryz.prog w = .ok (.value (.pointer (some ⟨g, 4, none⟩))) w := by
  unfold execOp; rw [ho]; simp [hx, hc, go_sem]
theorem run_neq_nilnil {ρ : Operand → Value} {o : Oper} {x : Operand} (ho : o.op = .binOp .neq 26 x (.const .nilIface) 26) (hx : ρ x = .nilIface) (hy : ρ (.const .nilIface) = .nilIface) (w : World) : (execOp ρ o).run Tryz.prog w = .ok (.value (.bool false)) w := by
  unfold execOp; rw [ho]; simp [hx, hy, go_sem, eqGuard]
theorem run_load_page {ρ : Operand → Value} {o : Oper} {x : Operand} (ho : o.op = .load 39 x) {g : Nat} (hx : ρ x = .pointer (some ⟨g, 0, none⟩)) {p : B8} {t : TypeId} {fr : Nat × Nat} {w : World} (hg : w.heap[g]? = some (.cells (pv p) t fr)) (hp : p.length = 128) : (execOp ρ o).run Tryz.prog w = .ok (.value (.agg (pv p))) w :=
  run_load_agg ho hx hg Tryz.underlying39 rfl (by rw [pv_size, hp]; exact size39)
theorem run_slice_to4 {ρ : Operand → Value} {o : Oper} {x : Operand} (ho : o.op = .slice 39 x none (some (.const (.int .i64 4))) none) (hc : ρ (.const (.int .i64 4)) = .int .i64 4) {g : Nat} (hx : ρ x = .pointer (some ⟨g, 0, none⟩)) (w : World) : (execOp ρ o).run Tryz.prog w = .ok (.value (.slice (some ⟨g, 0, none⟩) 4 128)) w := by
  unfold execOp; rw [ho]; simp [hx, hc, go_sem]
theorem run_slice_data {ρ : Operand → Value} {o : Oper} {x y : Operand} (ho : o.op = .slice 39 x (some (.const (.int .i64 6))) (some y) none) (hc : ρ (.const (.int .i64 6)) = .int .i64 6) {g n : Nat} (hx : ρ x = .pointer (some ⟨g, 0, none⟩)) (hy : ρ y = .int .i64 (6 + (n : Int))) (hn : n ≤ 120) (w : World) : (execOp ρ o).run Tryz.prog w = .ok (.value (.slice (some ⟨g, 6, none⟩) n 122)) w := by
  have h1 : (6 : Int) ≤ 6 + (n : Int) := by omega
  have h2 : 6 + (n : Int) ≤ 128 := by omega
  have h3 : (6 + (n : Int)).toNat = 6 + n := by omega
  unfold execOp; rw [ho]; simp [hx, hy, hc, go_sem, h1, h2, h3]
theorem laidP_at4 {k : Nat} {l : B8} (hl : l.length ≤ 120) (hk : k ≤ 255) : (pv (laidP k l))[4]? = some (.int .u8 (k : Int)) ∧ (pv (laidP k l))[5]? = some (.int .u8 (l.length : Int)) := by
  have hL := laidP_length (k := k) (l := l) (by omega)
  have e4 : (laidP k l)[4]? = some (UInt8.ofNat k) := by
    unfold laidP; rw [List.getElem?_append_right (by rw [be_length]; omega), be_length]; rfl
  have e5 : (laidP k l)[5]? = some (UInt8.ofNat l.length) := by
    unfold laidP; rw [List.getElem?_append_right (by rw [be_length]; omega), be_length]; rfl
  constructor
  · obtain ⟨h, e⟩ := List.getElem?_eq_some_iff.1 e4
    rw [pv_at h, e]
    simp; omega
  · obtain ⟨h, e⟩ := List.getElem?_eq_some_iff.1 e5
    rw [pv_at h, e]
    simp; omega
set_option maxRecDepth 100000 in
set_option maxHeartbeats 2000000 in
theorem fread_laid (k : Nat) (l : B8) (h1 : 1 ≤ k) (h2 : k ≤ 255) (hl : l.length ≤ 120) (w : World) : Calls Tryz.prog 90 #[.agg (pv (laidP k l))] w fun e w' => e = .returned (.tuple #[.int .i64 (k : Int), .string (strB l), .nilIface]) ∧ Below w.heap.size w w' := by
  obtain ⟨p, hp⟩ : ∃ p, p = laidP k l := ⟨_, rfl⟩
  obtain ⟨P, hP⟩ : ∃ P, P = w.heap.size := ⟨_, rfl⟩
  obtain ⟨W1, hW1⟩ : ∃ W, W = w.alloc (.cells (pv p) 39) := ⟨_, rfl⟩
  have hpl : p.length = 128 := by rw [hp]; exact laidP_length (by omega)
  have Q1 := Lib.hid (show W1.heap[P]? = some (.cells (pv p) 39 (0, 0)) by rw [hW1, hP]; exact heap_alloc_new _ _)
  have B1 := Lib.hid (show Below w.heap.size w W1 by rw [hW1]; exact (Below.refl _ _).alloc (Nat.le_refl _) _)
  have HP := Lib.hid hP
  have HW1 := Lib.hid hW1
  have HPL := Lib.hid hpl
  have HPP := Lib.hid hp
  have HFL := Lib.hid (fbody_length (k := k) (l := l) (by omega))
  have T1 := Lib.hid (show (p.drop 0).take 4 = be 4 (csum (fbody k l)) by rw [hp]; unfold laidP; rw [List.drop_zero, List.take_left' (be_length _ _)])
  have T2 := Lib.hid (show (p.drop 4).take 124 = fbody k l by rw [hp]; unfold laidP; rw [List.drop_left' (be_length _ _)]; exact List.take_of_length_le (by rw [HFL.out]; exact Nat.le_refl _))
  have T3 := Lib.hid (show (p.drop 6).take l.length = l by
    have e : p.drop 6 = (fbody k l).drop 2 := by
      rw [hp]; unfold laidP
      rw [show (6 : Nat) = 4 + 2 by rfl, ← List.drop_drop, List.drop_left' (be_length _ _)]
    rw [e]
    show (l ++ zeros (122 - l.length)).take l.length = l
    exact List.take_left' rfl)
  have GET := Lib.hid (fun w => get_any (be 4 (csum (fbody k l))) 4 (by omega) (by omega) (by rw [be_length]; omega) (by rw [be_length]; omega) w)
  have HU := Lib.hid (show (unbe ((be 4 (csum (fbody k l))).take 4) : Int) = (csum (fbody k l) : Int) by
    rw [List.take_of_length_le (by rw [be_length]; exact Nat.le_refl _), unbe_be 4 _ (csum_lt _)])
  rw [HU.out] at GET
  have SUM := Lib.hid (fun w => sum_any (strB (fbody k l)) (by rw [strB_size, HFL.out]; unfold maxLen; omega) w)
  have HSM := Lib.hid (show un (sumP (strB (fbody k l)).data.toList) = csum (fbody k l) by rw [strB_list]; rfl)
  rw [HSM.out] at SUM
  have C4 := Lib.hid (show (pv p)[4]? = some (.int .u8 (k : Int)) ∧ (pv p)[5]? = some (.int .u8 (l.length : Int)) by rw [hp]; exact laidP_at4 hl h2)
  have FR := Lib.hid (fun w => fright_any k l h1 h2 hl w)
  have LA := Lib.hid (fun w => laid_any k l h1 h2 hl w)
  rw [← hp] at *
  clear hP hW1 hpl
  go_enter Tryz.func90, Tryz.ntmps90
  go_upto_region 1 with fail
  rw [← HW1.out, ← HP.out]
  go_wp2_with (first | refine l_val rfl (run_slice_to4 (x := .tmp 1) rfl rfl rfl _) ?_ | refine l_val rfl (run_text_row (x := .tmp 11) rfl rfl Q1.out T1.out (be_length _ _)) ?_)
  refine (GET.out _).mono ?_
  rintro e w1 ⟨rfl, rfl⟩
  go_wp2_with (first | refine l_val rfl (run_slice_from4 (x := .tmp 1) rfl rfl rfl _) ?_ | refine l_val rfl (run_text_row (x := .tmp 17) rfl rfl Q1.out T2.out HFL.out) ?_)
  refine (SUM.out _).mono ?_
  rintro e w2 ⟨rfl, hb2⟩
  have Q2 := Lib.hid ((hb2.block P (row_lt Q1.out)).trans Q1.out)
  have B2 := Lib.hid (B1.out.trans (hb2.mono B1.out.size))
  have cl := csum_lt (fbody k l)
  have hcw : IntKind.i64.wrap (csum (fbody k l) : Int) = (csum (fbody k l) : Int) := by rw [IntKind.wrap_i64]; omega
  have x4 : w2.cell? ⟨P, 4, none⟩ = some (.int .u8 (k : Int)) := (cell_of_row w2 P 4 _ 39 (0, 0) Q2.out).trans C4.out.1
  have x5 : w2.cell? ⟨P, 5, none⟩ = some (.int .u8 (l.length : Int)) := (cell_of_row w2 P 5 _ 39 (0, 0) Q2.out).trans C4.out.2
  clear hb2
  go_upto_region 5 with fail
  have X4 := Lib.hid x4
  have PL := Lib.hid (row_lt Q2.out)
  have HK := Lib.hid (show k < 256 by omega)
  have HL := Lib.hid hl
  have HA := Lib.hid (show (6 : Int) + (l.length : Int) = 6 + (l.length : Int) ∧ -9223372036854775808 ≤ 6 + (l.length : Int) ∧ 6 + (l.length : Int) ≤ 9223372036854775807 by omega)
  clear x4 x5 hcw cl
  refine r_region (fun w' => Below w2.heap.size w2 w') (by kernel_rfl) (by kernel_rfl) (Below.refl _ _).drew ?_
  refine r_val rfl (fun w' hw' => run_at_page (x := .tmp 1) rfl rfl rfl w') ?_
  simp only [Act.put, List.setIfInBounds_toArray, List.set_cons_succ, List.set_cons_zero]
  refine r_val rfl (fun w' hw' => run_load_int (x := .tmp 28) rfl Tryz.underlying5 rfl ((hw'.cell PL.out).trans X4.out)) ?_
  simp only [Act.put, List.setIfInBounds_toArray, List.set_cons_succ, List.set_cons_zero]
  refine r_val rfl (fun w' hw' => run_conv8 (x := .tmp 29) rfl rfl HK.out w') ?_
  simp only [Act.put, List.setIfInBounds_toArray, List.set_cons_succ, List.set_cons_zero]
  refine r_move_is rfl (.tmp 7) (.int .i64 (l.length : Int)) rfl rfl ?_
  simp only [Act.put, List.setIfInBounds_toArray, List.set_cons_succ, List.set_cons_zero]
  refine r_val rfl (fun w' hw' => run_add_is (x := .const (.int .i64 6)) (y := .tmp 31) rfl rfl rfl (6 + (l.length : Int)) HA.out w') ?_
  simp only [Act.put, List.setIfInBounds_toArray, List.set_cons_succ, List.set_cons_zero]
  refine r_val rfl (fun w' hw' => run_slice_data (x := .tmp 1) (y := .tmp 32) rfl rfl rfl rfl HL.out w') ?_
  simp only [Act.put, List.setIfInBounds_toArray, List.set_cons_succ, List.set_cons_zero]
  refine r_val rfl (fun w' hw' => run_text_row (x := .tmp 33) rfl rfl ((hw'.block P PL.out).trans Q2.out) T3.out rfl) ?_
  simp only [Act.put, List.setIfInBounds_toArray, List.set_cons_succ, List.set_cons_zero]
  refine r_val rfl (fun w' hw' => run_assign_is (.tmp 30) (.int .i64 (k : Int)) rfl rfl w') ?_
  simp only [Act.put, List.setIfInBounds_toArray, List.set_cons_succ, List.set_cons_zero]
  refine r_val rfl (fun w' hw' => run_assign_is (.tmp 34) (.string (strB l)) rfl rfl w') ?_
  simp only [Act.put, List.setIfInBounds_toArray, List.set_cons_succ, List.set_cons_zero]
  refine r_nil ?_
  intro w3 hw3
  have Q3 := Lib.hid ((hw3.block P PL.out).trans Q2.out)
  have B3 := Lib.hid (B2.out.trans (hw3.mono B2.out.size))
  have PL3 := Lib.hid (row_lt Q3.out)
  clear hw3
  go_upto_region 6 with fail
  refine r_region (fun w' => Below w3.heap.size w3 w') (by kernel_rfl) (by kernel_rfl) (Below.refl _ _).drew ?_
  refine r_move_is rfl (.tmp 8) (.int .i64 (k : Int)) rfl rfl ?_
  simp only [Act.put, List.setIfInBounds_toArray, List.set_cons_succ, List.set_cons_zero]
  refine r_move_is rfl (.tmp 9) (.string (strB l)) rfl rfl ?_
  simp only [Act.put, List.setIfInBounds_toArray, List.set_cons_succ, List.set_cons_zero]
  refine r_call rfl (args := #[(.int .i64 (k : Int)), (.string (strB l))]) (fun w' hw' => run_call2 (u := (.int .i64 (k : Int))) (v := (.string (strB l))) rfl Tryz.call94 rfl rfl w') (fun w' hw' => (FR.out w').mono (fun e w'' ⟨he, hw⟩ => ⟨he, hw ▸ hw'⟩)) ?_
  simp only [Act.put, List.setIfInBounds_toArray, List.set_cons_succ, List.set_cons_zero]
  refine r_val rfl (fun w' hw' => run_neq_nilnil (x := .tmp 37) rfl rfl rfl w') ?_
  simp only [Act.put, List.setIfInBounds_toArray, List.set_cons_succ, List.set_cons_zero]
  refine r_move_is rfl (.tmp 38) (.bool false) rfl rfl ?_
  simp only [Act.put, List.setIfInBounds_toArray, List.set_cons_succ, List.set_cons_zero]
  refine r_move_is rfl (.tmp 8) (.int .i64 (k : Int)) rfl rfl ?_
  simp only [Act.put, List.setIfInBounds_toArray, List.set_cons_succ, List.set_cons_zero]
  refine r_move_is rfl (.tmp 9) (.string (strB l)) rfl rfl ?_
  simp only [Act.put, List.setIfInBounds_toArray, List.set_cons_succ, List.set_cons_zero]
  refine r_call rfl (args := #[(.int .i64 (k : Int)), (.string (strB l))]) (fun w' hw' => run_call2 (u := (.int .i64 (k : Int))) (v := (.string (strB l))) rfl Tryz.call95 rfl rfl w') (fun w' hw' => (LA.out w').mono (fun e w'' ⟨he, hb⟩ => ⟨he, hw'.trans (hb.mono hw'.size)⟩)) ?_
  simp only [Act.put, List.setIfInBounds_toArray, List.set_cons_succ, List.set_cons_zero]
  refine r_val rfl (fun w' hw' => run_load_page (x := .tmp 1) rfl rfl ((hw'.block P PL3.out).trans Q3.out) HPL.out) ?_
  simp only [Act.put, List.setIfInBounds_toArray, List.set_cons_succ, List.set_cons_zero]
  refine r_val rfl (fun w' hw' => run_neq_page (x := .tmp 42) (y := .tmp 43) rfl rfl rfl HPL.out HPL.out w') ?_
  simp only [Act.put, List.setIfInBounds_toArray, List.set_cons_succ, List.set_cons_zero]
  refine r_val rfl (fun w' hw' => run_pick_is (c := .tmp 39) (a := .const (.bool true)) (b := .tmp 44) rfl (t := false) rfl (.bool (decide (p ≠ p))) rfl w') ?_
  simp only [Act.put, List.setIfInBounds_toArray, List.set_cons_succ, List.set_cons_zero]
  refine r_nil ?_
  intro w5 hw5
  have B5 := Lib.hid (B3.out.trans (hw5.mono B3.out.size))
  have hpp : decide (p ≠ p) = false := decide_eq_false (fun h => h rfl)
  rw [hpp]
  clear hw5
  go_wp2_with fail
  go_ret3
  exact ⟨rfl, B5.out⟩
end Go.Proofs.YtnlolhlbpdmljaaGreatDoor
