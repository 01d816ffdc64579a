/-
  What is put in and taken out again leaves the set as it was: BitsBack answers true at every set of thirty bytes and every number, and writes nothing that was there.
  Conditions: none.
-/
import Derived.Test.YtkeoghekeapgaaaOpen
import Derived.Test.YtkeoghekeapgaaaKit
import Derived.Deep.WholeRow
namespace Go.Proofs.Ytkeoghekeapgaaa
open Go.ChangeShapes Go.WideShapes Go.ChangeAt Go.RowKit

theorem guard28 : Try.prog.eqGuardType Try.prog.depth 28 = false := by kernel_rfl

/-- Two sets held against each other. -/
theorem run_eql_set {ρ : Operand → Value} {o : Oper} {x y : Operand} {t' : TypeId} (ho : o.op = .binOp .eql 28 x y t') {s t : List Nat} (hs : Set30 s) (ht : Set30 t) (hx : ρ x = .agg (Bv s)) (hy : ρ y = .agg (Bv t)) (b : Bool) (hb : decide (s = t) = b) (w : World) :
    (execOp ρ o).run Try.prog w = .ok (.value (.bool b)) w := by
  have h := run_eql_alike (P := Try.prog) ho Try.underlying28 Try.underlying5 size5 guard28 hx hy (fun i => (s.getD i 0 : Nat)) (fun i => (t.getD i 0 : Nat)) (fun i hi => Bv_at (by rw [hs.len]; exact hi)) (fun i hi => Bv_at (by rw [ht.len]; exact hi)) w
  rw [h, ← hb]
  congr 3
  rw [Bool.eq_iff_iff, alikeFrom_iff, decide_eq_true_iff]
  constructor
  · intro hall
    apply List.ext_getElem?
    intro i
    have h1 := hs.len
    have h2 := ht.len
    by_cases hi : i < 30
    · have := hall i (by omega) (by omega)
      simp only [List.getD_eq_getElem?_getD] at this
      rw [List.getElem?_eq_getElem (by omega), List.getElem?_eq_getElem (by omega)] at this ⊢
      congr 1
      exact Int.ofNat_inj.1 (by simpa using this)
    · rw [List.getElem?_eq_none (by omega), List.getElem?_eq_none (by omega)]
  · rintro rfl j _ _
    rfl

theorem run_load_set {ρ : Operand → Value} {o : Oper} {x : Operand} (ty : TypeId) (ho : o.op = .load ty x) {g : Nat} (hx : ρ x = .pointer (some ⟨g, 0, none⟩)) {t : TypeId} {ns : List Nat} (hs : Set30 ns)
    (hu : Try.prog.underlying ty = some (.array 30 5)) (hi : (Try.prog.info? ty).map (·.size) = some 30) {w : World} (hg : w.heap[g]? = some (.cells (Bv ns) t (0, 0))) :
    (execOp ρ o).run Try.prog w = .ok (.value (.agg (Bv ns))) w :=
  run_load_agg ho hx hg hu rfl (by rw [Bv_size, hs.len]; exact hi)

/-- A call of With, of Without, of Count, of Has at a world of a class 'below B nothing has turned'. -/
theorem class_with {B : Nat} {W w : World} (hB : B ≤ W.heap.size) (h : Below B W w) {ns : List Nat} (n : Int) (hs : Set30 ns) : Calls Try.prog 12 #[.agg (Bv ns), .int .i64 n] w fun e w'' => e = .returned (.agg (Bv (withP ns n))) ∧ Below B W w'' :=
  (with_any ns n w hs).mono fun _ _ ⟨he, hb⟩ => ⟨he, h.trans (hb.mono (Nat.le_trans hB h.size))⟩
theorem class_without {B : Nat} {W w : World} (hB : B ≤ W.heap.size) (h : Below B W w) {ns : List Nat} (n : Int) (hs : Set30 ns) : Calls Try.prog 14 #[.agg (Bv ns), .int .i64 n] w fun e w'' => e = .returned (.agg (Bv (withoutP ns n))) ∧ Below B W w'' :=
  (without_any ns n w hs).mono fun _ _ ⟨he, hb⟩ => ⟨he, h.trans (hb.mono (Nat.le_trans hB h.size))⟩
theorem class_count {B : Nat} {W w : World} (hB : B ≤ W.heap.size) (h : Below B W w) {ns : List Nat} (hs : Set30 ns) : Calls Try.prog 13 #[.agg (Bv ns)] w fun e w'' => e = .returned (.int .i64 (countP ns : Int)) ∧ Below B W w'' :=
  (count_any ns hs w).mono fun _ _ ⟨he, hb⟩ => ⟨he, h.trans (hb.mono (Nat.le_trans hB h.size))⟩
theorem class_has {B : Nat} {W w : World} (hB : B ≤ W.heap.size) (h : Below B W w) {ns : List Nat} (n : Int) (hs : Set30 ns) : Calls Try.prog 11 #[.agg (Bv ns), .int .i64 n] w fun e w'' => e = .returned (.bool (hasP ns n)) ∧ Below B W w'' :=
  (has_any ns n w hs).mono fun _ _ ⟨he, hb⟩ => ⟨he, h.trans (hb.mono (Nat.le_trans hB h.size))⟩

/-- A row that is there stays in every world of the class. -/
theorem row_in {W w : World} (h : Below W.heap.size W w) {g : Nat} {o : Obj} (hg : W.heap[g]? = some o) : w.heap[g]? = some o := by
  have hlt : g < W.heap.size := by
    rcases Nat.lt_or_ge g W.heap.size with h1 | h1
    · exact h1
    · rw [Array.getElem?_eq_none h1] at hg; cases hg
  rw [h.block g hlt]; exact hg
theorem row_later {B : Nat} {W w : World} (h : Below B W w) {g : Nat} {o : Obj} (hg : W.heap[g]? = some o) (hlt : g < B) : w.heap[g]? = some o := by
  rw [h.block g hlt]; exact hg
theorem row_lt {W : World} {g : Nat} {o : Obj} (hg : W.heap[g]? = some o) : g < W.heap.size := by
  rcases Nat.lt_or_ge g W.heap.size with h1 | h1
  · exact h1
  · rw [Array.getElem?_eq_none h1] at hg; cases hg

theorem with_old {ns : List Nat} (hs : Set30 ns) {n : Int} (hm : hasP ns n = true) : withP ns n = ns := by
  have h1 : inB n = true := by unfold hasP at hm; simp at hm; exact hm.1
  obtain ⟨h2, h3⟩ := inB_iff.1 h1
  refine (hs.with n).ext hs fun i hi => ?_
  rw [mem_with hs hi, h1]
  by_cases e : i = n.toNat
  · subst e
    unfold hasP at hm
    simp at hm
    simp [hm.2]
  · simp [e]
theorem without_new {ns : List Nat} (hs : Set30 ns) {n : Int} (hm : hasP ns n = false) : withoutP ns n = ns := by
  refine (hs.without n).ext hs fun i hi => ?_
  rw [mem_without hs hi]
  by_cases h1 : inB n = true
  · by_cases e : i = n.toNat
    · subst e
      unfold hasP at hm
      simp [h1] at hm
      simp [hm]
    · simp [e]
  · simp [h1]
theorem with_without {ns : List Nat} (hs : Set30 ns) {n : Int} (hm : hasP ns n = true) : withP (withoutP ns n) n = ns := by
  have h1 : inB n = true := by unfold hasP at hm; simp at hm; exact hm.1
  refine ((hs.without n).with n).ext hs fun i hi => ?_
  rw [mem_with (hs.without n) hi, mem_without hs hi, h1]
  by_cases e : i = n.toNat
  · subst e
    unfold hasP at hm
    simp at hm
    simp [hm.2]
  · simp [e]
theorem without_with {ns : List Nat} (hs : Set30 ns) {n : Int} (hm : hasP ns n = false) : withoutP (withP ns n) n = ns := by
  refine ((hs.with n).without n).ext hs fun i hi => ?_
  rw [mem_without (hs.with n) hi, mem_with hs hi]
  by_cases h1 : inB n = true
  · by_cases e : i = n.toNat
    · subst e
      unfold hasP at hm
      simp [h1] at hm
      simp [hm, h1]
    · simp [e]
  · simp [h1]
theorem out_with {ns : List Nat} {n : Int} (h : inB n = false) : withP ns n = ns := by unfold withP; simp [h]
theorem out_without {ns : List Nat} {n : Int} (h : inB n = false) : withoutP ns n = ns := by unfold withoutP; simp [h]
theorem count_without {ns : List Nat} (hs : Set30 ns) {n : Int} (hm : hasP ns n = true) : (countP (withoutP ns n) : Int) = countP ns - 1 := by
  have h1 : inB n = true := by unfold hasP at hm; simp at hm; exact hm.1
  obtain ⟨h2, h3⟩ := inB_iff.1 h1
  obtain ⟨i, rfl⟩ : ∃ i : Nat, n = i := ⟨n.toNat, by omega⟩
  have hi : i < 240 := by omega
  rw [hasP_nat hi] at hm
  rw [countP_eq (hs.without _), countP_eq hs]
  have := cnt_without_old hs hi hm (Nat.le_refl 240)
  rw [if_pos hi] at this
  omega
theorem count_with {ns : List Nat} (hs : Set30 ns) {n : Int} (h1 : inB n = true) (hm : hasP ns n = false) : (countP (withP ns n) : Int) = countP ns + 1 := by
  obtain ⟨h2, h3⟩ := inB_iff.1 h1
  obtain ⟨i, rfl⟩ : ∃ i : Nat, n = i := ⟨n.toNat, by omega⟩
  have hi : i < 240 := by omega
  rw [hasP_nat hi] at hm
  rw [countP_eq (hs.with _), countP_eq hs]
  have := cnt_with_new hs hi hm (Nat.le_refl 240)
  rw [if_pos hi] at this
  omega
theorem countP_le {ns : List Nat} (hs : Set30 ns) : countP ns ≤ 240 := by rw [countP_eq hs]; exact cnt_le _ _

theorem store_new {P : Program} {ops : Array Oper} {rest : List Oper} {o : Oper} {a : Act} {w : World} {Q : Exit → Act → World → Prop} (hgd : o.guard = none) (x y : Operand) (ty : TypeId) (ho : o.op = .store ty x y) (ns : List Nat)
    (hx : a.eval x = .pointer (some ⟨w.heap.size, 0, none⟩)) (hy : a.eval y = .agg (Bv ns)) (hs : Set30 ns) (t : TypeId) (old : Array Value) (hi : (P.info? ty).map (·.size) = some 30) (ho' : old.size = 30)
    (h : wpList P ops Q rest (a.put o.dst undef) (w.alloc (.cells (Bv ns) t))) : wpList P ops Q (o :: rest) a (w.alloc (.cells old t)) :=
  store_set hgd x y ty ho w.heap.size ns hx hy hs t old hi ho' (heap_alloc_new _ _) (by rw [World.setRow_alloc_new]; exact h)

set_option maxRecDepth 100000 in
set_option maxHeartbeats 1000000 in
theorem back_has (ns : List Nat) (hs : Set30 ns) (n : Int) (w : World) (h0 : 0 ≤ n) (h1 : n < 240) (hm : hasP ns n = true) :
    Calls Try.prog 5 #[.agg (Bv ns), .int .i64 n] w fun e w' => e = .returned (.bool true) ∧ Below w.heap.size w w' := by
  have K0 := Lib.hid (heap_alloc_new w (.cells (Bv ns) 22))
  have KB := Lib.hid ((Below.refl w.heap.size w).alloc (Nat.le_refl _) (.cells (Bv ns) 22))
  have hw := hs.with n
  have ho := hs.without n
  have hinB : inB n = true := inB_iff.2 ⟨h0, h1⟩
  have E1 := Lib.hid (show decide (withP ns n = ns) = true by simp [with_old hs hm])
  have E2 := Lib.hid (show decide (withP (withoutP ns n) n = withP ns n) = true by simp [with_old hs hm, with_without hs hm])
  have E3 := Lib.hid (show ((countP (withoutP ns n) : Int) == (countP ns : Int) - 1) = true by rw [count_without hs hm]; simp)
  have HCB := Lib.hid (show -9223372036854775808 ≤ (countP ns : Int) - 1 ∧ (countP ns : Int) - 1 ≤ 9223372036854775807 by have := countP_le hs; omega)
  clear hinB
  go_enter Try.func5, Try.ntmps5
  go_wp2_with fail
  refine (awake_any _).mono ?_
  rintro e w1 ⟨rfl, hb1⟩
  have KW1 := Lib.hid (row_later (hb1.mono (by simp : w.heap.size + 1 ≤ _)) K0.out (by omega))
  have KB1 := Lib.hid (KB.out.trans (hb1.mono (by simp)))
  clear hb1
  go_wp2_with (refine load_set rfl (.tmp 2) 22 rfl w.heap.size rfl 22 ns hs 5 Try.underlying22 size22 ?_ ?_)
  · exact KW1.out
  refine (with_any ns n _ hs).mono ?_
  rintro e w2 ⟨rfl, hb2⟩
  have KW2 := Lib.hid (row_later hb2 KW1.out (row_lt KW1.out))
  have KB2 := Lib.hid (KB1.out.trans (hb2.mono (Nat.le_of_lt (row_lt KW1.out))))
  have KS2 := Lib.hid (KB2.out.size)
  clear hb2
  have K3 := Lib.hid (show (w2.alloc (.cells (Bv (withP ns n)) 28)).heap[w.heap.size]? = _ from (Go.heap_alloc_old _ _ (row_lt KW2.out)).trans KW2.out)
  have K36 := Lib.hid (show (w2.alloc (.cells (Bv (withP ns n)) 28)).heap[w2.heap.size]? = _ from heap_alloc_new w2 _)
  have KB3 := Lib.hid (KB2.out.alloc KS2.out (.cells (Bv (withP ns n)) 28))
  go_wp2_with (first | (refine store_new rfl (.tmp 6) (.tmp 18) 28 rfl (withP ns n) rfl rfl hw 28 _ size28 rfl ?_) | (refine load_set rfl (.tmp 2) 22 rfl w.heap.size rfl 22 ns hs 5 Try.underlying22 size22 ?_ ?_))
  · exact K3.out
  refine (without_any ns n _ hs).mono ?_
  rintro e w4 ⟨rfl, hb4⟩
  have R2a := Lib.hid (row_later hb4 K3.out (row_lt K3.out))
  have R6a := Lib.hid (row_later hb4 K36.out (row_lt K36.out))
  have KB4 := Lib.hid (KB3.out.trans (hb4.mono (Nat.le_of_lt (row_lt K3.out))))
  clear hb4
  obtain ⟨g6, hg6⟩ : ∃ g6, g6 = w2.heap.size := ⟨_, rfl⟩
  have KS4 := Lib.hid (KB4.out.size)
  have R2 := Lib.hid (show (w4.alloc (.cells (Bv (withoutP ns n)) 28)).heap[w.heap.size]? = _ from (Go.heap_alloc_old _ _ (row_lt R2a.out)).trans R2a.out)
  have R6 := Lib.hid (show (w4.alloc (.cells (Bv (withoutP ns n)) 28)).heap[w2.heap.size]? = _ from (Go.heap_alloc_old _ _ (row_lt R6a.out)).trans R6a.out)
  have R7 := Lib.hid (show (w4.alloc (.cells (Bv (withoutP ns n)) 28)).heap[w4.heap.size]? = _ from heap_alloc_new w4 _)
  have RB := Lib.hid (KB4.out.alloc KS4.out (.cells (Bv (withoutP ns n)) 28))
  have RS := Lib.hid (RB.out.size)
  obtain ⟨W, hW⟩ : ∃ W, W = w4 := ⟨_, rfl⟩
  clear hW hg6
  have hm' : hasP ns n = true := hm
  go_wp2_with (first | (refine load_set rfl (.tmp 2) 22 rfl w.heap.size rfl 22 ns hs 5 Try.underlying22 size22 ?_ ?_) | (refine store_new rfl (.tmp 7) (.tmp 21) 28 rfl (withoutP ns n) rfl rfl ho 28 _ size28 rfl ?_) | (refine load_set rfl (.tmp 6) 28 rfl w2.heap.size rfl 28 (withP ns n) hw 5 Try.underlying28 size28 ?_ ?_) | (refine load_set rfl (.tmp 7) 28 rfl w4.heap.size rfl 28 (withoutP ns n) ho 5 Try.underlying28 size28 ?_ ?_) | (go_at_call 11; refine (has_any ns n _ hs).mono ?_; rintro e w5 ⟨rfl, hb5⟩))
  · exact R2.out
  have R2 := Lib.hid (row_later hb5 R2.out (row_lt R2.out))
  have R6 := Lib.hid (row_later hb5 R6.out (row_lt R6.out))
  have R7 := Lib.hid (row_later hb5 R7.out (row_lt R7.out))
  have RB := Lib.hid (RB.out.trans (hb5.mono RS.out))
  have RS := Lib.hid (RB.out.size)
  clear hb5
  clear W
  obtain ⟨W, hW⟩ : ∃ W, W = w5 := ⟨_, rfl⟩
  subst hW
  refine region_class (fun w' => Below W.heap.size W w') (by kernel_rfl) (by kernel_rfl) (Below.refl _ _).drew ?_
  refine q_val rfl (fun w' hw' => run_load_set 28 (x := .tmp 6) rfl rfl hw Try.underlying28 size28 (row_in hw' R6.out)) ?_
  simp only [Act.put, List.setIfInBounds_toArray, List.set_cons_succ, List.set_cons_zero]
  refine q_val rfl (fun w' hw' => run_load_set 22 (x := .tmp 2) rfl rfl hs Try.underlying22 size22 (row_in hw' R2.out)) ?_
  simp only [Act.put, List.setIfInBounds_toArray, List.set_cons_succ, List.set_cons_zero]
  refine q_val rfl (fun w' hw' => run_eql_set (x := .tmp 41) (y := .tmp 42) rfl hw hs rfl rfl true E1.out w') ?_
  simp only [Act.put, List.setIfInBounds_toArray, List.set_cons_succ, List.set_cons_zero]
  refine q_move rfl (.tmp 43) rfl ?_
  simp only [Act.put, List.setIfInBounds_toArray, List.set_cons_succ, List.set_cons_zero]
  refine q_val rfl (fun w' hw' => run_load_set 28 (x := .tmp 7) rfl rfl ho Try.underlying28 size28 (row_in hw' R7.out)) ?_
  simp only [Act.put, List.setIfInBounds_toArray, List.set_cons_succ, List.set_cons_zero]
  refine q_move rfl (.tmp 1) rfl ?_
  simp only [Act.put, List.setIfInBounds_toArray, List.set_cons_succ, List.set_cons_zero]
  refine q_call rfl (args := #[.agg (Bv (withoutP ns n)), .int .i64 n]) (fun w' hw' => run_call2 (u := .agg (Bv (withoutP ns n))) (v := .int .i64 n) rfl Try.call12 rfl rfl w') (fun w' hw' => class_with (Nat.le_refl _) hw' n ho) ?_
  simp only [Act.put, List.setIfInBounds_toArray, List.set_cons_succ, List.set_cons_zero]
  refine q_val rfl (fun w' hw' => run_load_set 28 (x := .tmp 6) rfl rfl hw Try.underlying28 size28 (row_in hw' R6.out)) ?_
  simp only [Act.put, List.setIfInBounds_toArray, List.set_cons_succ, List.set_cons_zero]
  refine q_val rfl (fun w' hw' => run_eql_set (x := .tmp 47) (y := .tmp 48) rfl (ho.with n) hw rfl rfl true E2.out w') ?_
  simp only [Act.put, List.setIfInBounds_toArray, List.set_cons_succ, List.set_cons_zero]
  refine q_val rfl (fun w' hw' => run_pick (c := .tmp 44) (a := .tmp 49) (b := .const (.bool false)) rfl (t := true) rfl w') ?_
  simp only [Act.put, List.setIfInBounds_toArray, List.set_cons_succ, List.set_cons_zero]
  refine q_move rfl (.tmp 50) rfl ?_
  simp only [Act.put, List.setIfInBounds_toArray, List.set_cons_succ, List.set_cons_zero]
  refine q_val rfl (fun w' hw' => run_load_set 28 (x := .tmp 7) rfl rfl ho Try.underlying28 size28 (row_in hw' R7.out)) ?_
  simp only [Act.put, List.setIfInBounds_toArray, List.set_cons_succ, List.set_cons_zero]
  refine q_call rfl (args := #[.agg (Bv (withoutP ns n))]) (fun w' hw' => run_call1 (u := .agg (Bv (withoutP ns n))) rfl Try.call13 rfl w') (fun w' hw' => class_count (Nat.le_refl _) hw' ho) ?_
  simp only [Act.put, List.setIfInBounds_toArray, List.set_cons_succ, List.set_cons_zero]
  refine q_val rfl (fun w' hw' => run_load_set 22 (x := .tmp 2) rfl rfl hs Try.underlying22 size22 (row_in hw' R2.out)) ?_
  simp only [Act.put, List.setIfInBounds_toArray, List.set_cons_succ, List.set_cons_zero]
  refine q_call rfl (args := #[.agg (Bv ns)]) (fun w' hw' => run_call1 (u := .agg (Bv ns)) rfl Try.call13 rfl w') (fun w' hw' => class_count (Nat.le_refl _) hw' hs) ?_
  simp only [Act.put, List.setIfInBounds_toArray, List.set_cons_succ, List.set_cons_zero]
  refine q_val rfl (fun w' hw' => run_sub_int (x := .tmp 55) (y := .const (.int .i64 1)) rfl rfl rfl HCB.out w') ?_
  simp only [Act.put, List.setIfInBounds_toArray, List.set_cons_succ, List.set_cons_zero]
  refine q_val rfl (fun w' hw' => run_eql_int (x := .tmp 53) (y := .tmp 56) rfl rfl rfl w') ?_
  simp only [Act.put, List.setIfInBounds_toArray, List.set_cons_succ, List.set_cons_zero]
  refine q_val rfl (fun w' hw' => run_pick (c := .tmp 51) (a := .tmp 57) (b := .const (.bool false)) rfl (t := true) rfl w') ?_
  simp only [Act.put, List.setIfInBounds_toArray, List.set_cons_succ, List.set_cons_zero]
  refine q_assign rfl (.tmp 58) rfl ?_
  simp only [Act.put, List.setIfInBounds_toArray, List.set_cons_succ, List.set_cons_zero]
  refine wpQuiet_nil ?_
  intro w' hw'
  go_wp2
  go_ret
  exact ⟨ret_bool (E3.out), RB.out.trans (hw'.mono RS.out)⟩

set_option maxRecDepth 100000 in
set_option maxHeartbeats 1000000 in
theorem back_hasnt (ns : List Nat) (hs : Set30 ns) (n : Int) (w : World) (h0 : 0 ≤ n) (h1 : n < 240) (hm : hasP ns n = false) :
    Calls Try.prog 5 #[.agg (Bv ns), .int .i64 n] w fun e w' => e = .returned (.bool true) ∧ Below w.heap.size w w' := by
  have K0 := Lib.hid (heap_alloc_new w (.cells (Bv ns) 22))
  have KB := Lib.hid ((Below.refl w.heap.size w).alloc (Nat.le_refl _) (.cells (Bv ns) 22))
  have hw := hs.with n
  have ho := hs.without n
  have hinB : inB n = true := inB_iff.2 ⟨h0, h1⟩
  have E1 := Lib.hid (show decide (withoutP ns n = ns) = true by simp [without_new hs hm])
  have E2 := Lib.hid (show decide (withoutP (withP ns n) n = withoutP ns n) = true by simp [without_new hs hm, without_with hs hm])
  have E3 := Lib.hid (show ((countP (withP ns n) : Int) == (countP ns : Int) + 1) = true by rw [count_with hs hinB hm]; simp)
  have HCB := Lib.hid (show -9223372036854775808 ≤ (countP ns : Int) + 1 ∧ (countP ns : Int) + 1 ≤ 9223372036854775807 by have := countP_le hs; omega)
  clear hinB
  go_enter Try.func5, Try.ntmps5
  go_wp2_with fail
  refine (awake_any _).mono ?_
  rintro e w1 ⟨rfl, hb1⟩
  have KW1 := Lib.hid (row_later (hb1.mono (by simp : w.heap.size + 1 ≤ _)) K0.out (by omega))
  have KB1 := Lib.hid (KB.out.trans (hb1.mono (by simp)))
  clear hb1
  go_wp2_with (refine load_set rfl (.tmp 2) 22 rfl w.heap.size rfl 22 ns hs 5 Try.underlying22 size22 ?_ ?_)
  · exact KW1.out
  refine (with_any ns n _ hs).mono ?_
  rintro e w2 ⟨rfl, hb2⟩
  have KW2 := Lib.hid (row_later hb2 KW1.out (row_lt KW1.out))
  have KB2 := Lib.hid (KB1.out.trans (hb2.mono (Nat.le_of_lt (row_lt KW1.out))))
  have KS2 := Lib.hid (KB2.out.size)
  clear hb2
  have K3 := Lib.hid (show (w2.alloc (.cells (Bv (withP ns n)) 28)).heap[w.heap.size]? = _ from (Go.heap_alloc_old _ _ (row_lt KW2.out)).trans KW2.out)
  have K36 := Lib.hid (show (w2.alloc (.cells (Bv (withP ns n)) 28)).heap[w2.heap.size]? = _ from heap_alloc_new w2 _)
  have KB3 := Lib.hid (KB2.out.alloc KS2.out (.cells (Bv (withP ns n)) 28))
  go_wp2_with (first | (refine store_new rfl (.tmp 6) (.tmp 18) 28 rfl (withP ns n) rfl rfl hw 28 _ size28 rfl ?_) | (refine load_set rfl (.tmp 2) 22 rfl w.heap.size rfl 22 ns hs 5 Try.underlying22 size22 ?_ ?_))
  · exact K3.out
  refine (without_any ns n _ hs).mono ?_
  rintro e w4 ⟨rfl, hb4⟩
  have R2a := Lib.hid (row_later hb4 K3.out (row_lt K3.out))
  have R6a := Lib.hid (row_later hb4 K36.out (row_lt K36.out))
  have KB4 := Lib.hid (KB3.out.trans (hb4.mono (Nat.le_of_lt (row_lt K3.out))))
  clear hb4
  obtain ⟨g6, hg6⟩ : ∃ g6, g6 = w2.heap.size := ⟨_, rfl⟩
  have KS4 := Lib.hid (KB4.out.size)
  have R2 := Lib.hid (show (w4.alloc (.cells (Bv (withoutP ns n)) 28)).heap[w.heap.size]? = _ from (Go.heap_alloc_old _ _ (row_lt R2a.out)).trans R2a.out)
  have R6 := Lib.hid (show (w4.alloc (.cells (Bv (withoutP ns n)) 28)).heap[w2.heap.size]? = _ from (Go.heap_alloc_old _ _ (row_lt R6a.out)).trans R6a.out)
  have R7 := Lib.hid (show (w4.alloc (.cells (Bv (withoutP ns n)) 28)).heap[w4.heap.size]? = _ from heap_alloc_new w4 _)
  have RB := Lib.hid (KB4.out.alloc KS4.out (.cells (Bv (withoutP ns n)) 28))
  have RS := Lib.hid (RB.out.size)
  obtain ⟨W, hW⟩ : ∃ W, W = w4 := ⟨_, rfl⟩
  clear hW hg6
  have hm' : hasP ns n = false := hm
  go_wp2_with (first | (refine load_set rfl (.tmp 2) 22 rfl w.heap.size rfl 22 ns hs 5 Try.underlying22 size22 ?_ ?_) | (refine store_new rfl (.tmp 7) (.tmp 21) 28 rfl (withoutP ns n) rfl rfl ho 28 _ size28 rfl ?_) | (refine load_set rfl (.tmp 6) 28 rfl w2.heap.size rfl 28 (withP ns n) hw 5 Try.underlying28 size28 ?_ ?_) | (refine load_set rfl (.tmp 7) 28 rfl w4.heap.size rfl 28 (withoutP ns n) ho 5 Try.underlying28 size28 ?_ ?_) | (go_at_call 11; refine (has_any ns n _ hs).mono ?_; rintro e w5 ⟨rfl, hb5⟩))
  · exact R2.out
  have R2 := Lib.hid (row_later hb5 R2.out (row_lt R2.out))
  have R6 := Lib.hid (row_later hb5 R6.out (row_lt R6.out))
  have R7 := Lib.hid (row_later hb5 R7.out (row_lt R7.out))
  have RB := Lib.hid (RB.out.trans (hb5.mono RS.out))
  have RS := Lib.hid (RB.out.size)
  clear hb5
  clear W
  obtain ⟨W, hW⟩ : ∃ W, W = w5 := ⟨_, rfl⟩
  subst hW
  refine region_class (fun w' => Below W.heap.size W w') (by kernel_rfl) (by kernel_rfl) (Below.refl _ _).drew ?_
  refine q_val rfl (fun w' hw' => run_load_set 28 (x := .tmp 7) rfl rfl ho Try.underlying28 size28 (row_in hw' R7.out)) ?_
  simp only [Act.put, List.setIfInBounds_toArray, List.set_cons_succ, List.set_cons_zero]
  refine q_val rfl (fun w' hw' => run_load_set 22 (x := .tmp 2) rfl rfl hs Try.underlying22 size22 (row_in hw' R2.out)) ?_
  simp only [Act.put, List.setIfInBounds_toArray, List.set_cons_succ, List.set_cons_zero]
  refine q_val rfl (fun w' hw' => run_eql_set (x := .tmp 59) (y := .tmp 60) rfl ho hs rfl rfl true E1.out w') ?_
  simp only [Act.put, List.setIfInBounds_toArray, List.set_cons_succ, List.set_cons_zero]
  refine q_move rfl (.tmp 61) rfl ?_
  simp only [Act.put, List.setIfInBounds_toArray, List.set_cons_succ, List.set_cons_zero]
  refine q_val rfl (fun w' hw' => run_load_set 28 (x := .tmp 6) rfl rfl hw Try.underlying28 size28 (row_in hw' R6.out)) ?_
  simp only [Act.put, List.setIfInBounds_toArray, List.set_cons_succ, List.set_cons_zero]
  refine q_move rfl (.tmp 1) rfl ?_
  simp only [Act.put, List.setIfInBounds_toArray, List.set_cons_succ, List.set_cons_zero]
  refine q_call rfl (args := #[.agg (Bv (withP ns n)), .int .i64 n]) (fun w' hw' => run_call2 (u := .agg (Bv (withP ns n))) (v := .int .i64 n) rfl Try.call14 rfl rfl w') (fun w' hw' => class_without (Nat.le_refl _) hw' n hw) ?_
  simp only [Act.put, List.setIfInBounds_toArray, List.set_cons_succ, List.set_cons_zero]
  refine q_val rfl (fun w' hw' => run_load_set 28 (x := .tmp 7) rfl rfl ho Try.underlying28 size28 (row_in hw' R7.out)) ?_
  simp only [Act.put, List.setIfInBounds_toArray, List.set_cons_succ, List.set_cons_zero]
  refine q_val rfl (fun w' hw' => run_eql_set (x := .tmp 65) (y := .tmp 66) rfl (hw.without n) ho rfl rfl true E2.out w') ?_
  simp only [Act.put, List.setIfInBounds_toArray, List.set_cons_succ, List.set_cons_zero]
  refine q_val rfl (fun w' hw' => run_pick (c := .tmp 62) (a := .tmp 67) (b := .const (.bool false)) rfl (t := true) rfl w') ?_
  simp only [Act.put, List.setIfInBounds_toArray, List.set_cons_succ, List.set_cons_zero]
  refine q_move rfl (.tmp 68) rfl ?_
  simp only [Act.put, List.setIfInBounds_toArray, List.set_cons_succ, List.set_cons_zero]
  refine q_val rfl (fun w' hw' => run_load_set 28 (x := .tmp 6) rfl rfl hw Try.underlying28 size28 (row_in hw' R6.out)) ?_
  simp only [Act.put, List.setIfInBounds_toArray, List.set_cons_succ, List.set_cons_zero]
  refine q_call rfl (args := #[.agg (Bv (withP ns n))]) (fun w' hw' => run_call1 (u := .agg (Bv (withP ns n))) rfl Try.call13 rfl w') (fun w' hw' => class_count (Nat.le_refl _) hw' hw) ?_
  simp only [Act.put, List.setIfInBounds_toArray, List.set_cons_succ, List.set_cons_zero]
  refine q_val rfl (fun w' hw' => run_load_set 22 (x := .tmp 2) rfl rfl hs Try.underlying22 size22 (row_in hw' R2.out)) ?_
  simp only [Act.put, List.setIfInBounds_toArray, List.set_cons_succ, List.set_cons_zero]
  refine q_call rfl (args := #[.agg (Bv ns)]) (fun w' hw' => run_call1 (u := .agg (Bv ns)) rfl Try.call13 rfl w') (fun w' hw' => class_count (Nat.le_refl _) hw' hs) ?_
  simp only [Act.put, List.setIfInBounds_toArray, List.set_cons_succ, List.set_cons_zero]
  refine q_val rfl (fun w' hw' => run_add_int (x := .tmp 73) (y := .const (.int .i64 1)) rfl rfl rfl HCB.out w') ?_
  simp only [Act.put, List.setIfInBounds_toArray, List.set_cons_succ, List.set_cons_zero]
  refine q_val rfl (fun w' hw' => run_eql_int (x := .tmp 71) (y := .tmp 74) rfl rfl rfl w') ?_
  simp only [Act.put, List.setIfInBounds_toArray, List.set_cons_succ, List.set_cons_zero]
  refine q_val rfl (fun w' hw' => run_pick (c := .tmp 69) (a := .tmp 75) (b := .const (.bool false)) rfl (t := true) rfl w') ?_
  simp only [Act.put, List.setIfInBounds_toArray, List.set_cons_succ, List.set_cons_zero]
  refine q_assign rfl (.tmp 76) rfl ?_
  simp only [Act.put, List.setIfInBounds_toArray, List.set_cons_succ, List.set_cons_zero]
  refine wpQuiet_nil ?_
  intro w' hw'
  go_wp2
  go_ret
  exact ⟨ret_bool (E3.out), RB.out.trans (hw'.mono RS.out)⟩

set_option maxRecDepth 100000 in
set_option maxHeartbeats 1000000 in
theorem back_out (ns : List Nat) (hs : Set30 ns) (n : Int) (w : World) (hor : n < 0 ∨ 240 ≤ n) :
    Calls Try.prog 5 #[.agg (Bv ns), .int .i64 n] w fun e w' => e = .returned (.bool true) ∧ Below w.heap.size w w' := by
  have K0 := Lib.hid (heap_alloc_new w (.cells (Bv ns) 22))
  have KB := Lib.hid ((Below.refl w.heap.size w).alloc (Nat.le_refl _) (.cells (Bv ns) 22))
  have hw := hs.with n
  have ho := hs.without n
  have hinB : inB n = false := by simp [inB]; omega
  have hm' : hasP ns n = false := by simp [hasP, hinB]
  have e1 := Lib.hid (show decide (withP ns n = ns) = true by simp [out_with hinB])
  have e2 := Lib.hid (show decide (withoutP ns n = withP ns n) = true by simp [out_with hinB, out_without hinB])
  clear hinB
  have hor2 : (¬ 0 ≤ n ∧ decide (0 ≤ n) = false) ∨ (0 ≤ n ∧ decide (n < 240) = false) := by
    rcases hor with h | h
    · exact .inl ⟨by omega, decide_eq_false (by omega)⟩
    · exact .inr ⟨by omega, decide_eq_false (by omega)⟩
  clear hor
  rcases hor2 with ⟨hor, hor2⟩ | ⟨hor, hor2⟩
  all_goals
    go_enter Try.func5, Try.ntmps5
    go_wp2_with fail
    refine (awake_any _).mono ?_
    rintro e w1 ⟨rfl, hb1⟩
    have KW1 := Lib.hid (row_later (hb1.mono (by simp : w.heap.size + 1 ≤ _)) K0.out (by omega))
    have KB1 := Lib.hid (KB.out.trans (hb1.mono (by simp)))
    clear hb1
    go_wp2_with (refine load_set rfl (.tmp 2) 22 rfl w.heap.size rfl 22 ns hs 5 Try.underlying22 size22 ?_ ?_)
    · exact KW1.out
    refine (with_any ns n _ hs).mono ?_
    rintro e w2 ⟨rfl, hb2⟩
    have KW2 := Lib.hid (row_later hb2 KW1.out (row_lt KW1.out))
    have KB2 := Lib.hid (KB1.out.trans (hb2.mono (Nat.le_of_lt (row_lt KW1.out))))
    have KS2 := Lib.hid (KB2.out.size)
    clear hb2
    have K3 := Lib.hid (show (w2.alloc (.cells (Bv (withP ns n)) 28)).heap[w.heap.size]? = _ from (Go.heap_alloc_old _ _ (row_lt KW2.out)).trans KW2.out)
    have K36 := Lib.hid (show (w2.alloc (.cells (Bv (withP ns n)) 28)).heap[w2.heap.size]? = _ from heap_alloc_new w2 _)
    have KB3 := Lib.hid (KB2.out.alloc KS2.out (.cells (Bv (withP ns n)) 28))
    go_wp2_with (first | (refine store_new rfl (.tmp 6) (.tmp 18) 28 rfl (withP ns n) rfl rfl hw 28 _ size28 rfl ?_) | (refine load_set rfl (.tmp 2) 22 rfl w.heap.size rfl 22 ns hs 5 Try.underlying22 size22 ?_ ?_))
    · exact K3.out
    refine (without_any ns n _ hs).mono ?_
    rintro e w4 ⟨rfl, hb4⟩
    have R2a := Lib.hid (row_later hb4 K3.out (row_lt K3.out))
    have R6a := Lib.hid (row_later hb4 K36.out (row_lt K36.out))
    have KB4 := Lib.hid (KB3.out.trans (hb4.mono (Nat.le_of_lt (row_lt K3.out))))
    clear hb4
    obtain ⟨g6, hg6⟩ : ∃ g6, g6 = w2.heap.size := ⟨_, rfl⟩
    have KS4 := Lib.hid (KB4.out.size)
    have R2 := Lib.hid (show (w4.alloc (.cells (Bv (withoutP ns n)) 28)).heap[w.heap.size]? = _ from (Go.heap_alloc_old _ _ (row_lt R2a.out)).trans R2a.out)
    have R6 := Lib.hid (show (w4.alloc (.cells (Bv (withoutP ns n)) 28)).heap[w2.heap.size]? = _ from (Go.heap_alloc_old _ _ (row_lt R6a.out)).trans R6a.out)
    have R7 := Lib.hid (show (w4.alloc (.cells (Bv (withoutP ns n)) 28)).heap[w4.heap.size]? = _ from heap_alloc_new w4 _)
    have RB := Lib.hid (KB4.out.alloc KS4.out (.cells (Bv (withoutP ns n)) 28))
    have RS := Lib.hid (RB.out.size)
    obtain ⟨W, hW⟩ : ∃ W, W = w4 := ⟨_, rfl⟩
    clear hW hg6
    go_wp2_with (first | (refine load_set rfl (.tmp 2) 22 rfl w.heap.size rfl 22 ns hs 5 Try.underlying22 size22 ?_ ?_) | (refine store_new rfl (.tmp 7) (.tmp 21) 28 rfl (withoutP ns n) rfl rfl ho 28 _ size28 rfl ?_) | (refine load_set rfl (.tmp 6) 28 rfl w2.heap.size rfl 28 (withP ns n) hw 5 Try.underlying28 size28 ?_ ?_) | (refine load_set rfl (.tmp 7) 28 rfl w4.heap.size rfl 28 (withoutP ns n) ho 5 Try.underlying28 size28 ?_ ?_) | (refine l_val rfl (run_eql_set (x := .tmp 24) (y := .tmp 25) rfl hw hs rfl rfl true e1.out _) ?_) | (refine l_val rfl (run_eql_set (x := .tmp 28) (y := .tmp 29) rfl ho hw rfl rfl true e2.out _) ?_) | (go_at_call 11; refine (has_any ns n _ hs).mono ?_; rintro e w5 ⟨rfl, hb5⟩))
    · exact R6.out
    · exact R2.out
    · exact R7.out
    · exact R6.out
    · exact R2.out
    go_ret
    exact ⟨rfl, RB.out.trans (hb5.mono RS.out)⟩

theorem walk_bitsBack (ns : List Nat) (hs : Set30 ns) (n : Int) (_hn : (Lit.int .i64 n).wf = true) (w : World) :
    Calls Try.prog 5 #[.agg (Bv ns), .int .i64 n] w fun e w' => e = .returned (.bool true) ∧ Below w.heap.size w w' := by
  by_cases hin : 0 ≤ n ∧ n < 240
  · cases hm : hasP ns n with
    | true => exact back_has ns hs n w hin.1 hin.2 hm
    | false => exact back_hasnt ns hs n w hin.1 hin.2 hm
  · exact back_out ns hs n w (by omega)

set_option maxRecDepth 100000 in
theorem bitsBack_lifted (os : Os) (started : os.Started) (H : Type) (enc : TypeId × Value → H) :
    ReturnsInHanded {} Try.checked os 5 .any (Rows.bitsBackSpec.pre6 enc Try.prog Try.f5 Rows.bitsBackRow.domain false) (Rows.bitsBackSpec.post enc Try.prog Try.f5 false true false false) := by
  refine returnsInHanded_of_change (C := Try.checked) own started (by kernel_rfl) Try.func5
    (ChangeSpec.witness6 (enc := enc) (C := Try.checked) false ⟨#[], #[.agg #[.int .u8 0, .int .u8 0, .int .u8 0, .int .u8 0, .int .u8 0, .int .u8 0, .int .u8 0, .int .u8 0, .int .u8 0, .int .u8 0, .int .u8 0, .int .u8 0, .int .u8 0, .int .u8 0, .int .u8 0, .int .u8 0, .int .u8 0, .int .u8 0, .int .u8 0, .int .u8 0, .int .u8 0, .int .u8 0, .int .u8 0, .int .u8 0, .int .u8 0, .int .u8 0, .int .u8 0, .int .u8 0, .int .u8 0, .int .u8 0], .int .i64 0], []⟩ 8 (by kernel_rfl) (by kernel_rfl) (by kernel_rfl) (by kernel_rfl)) ?_
  intro W base args ds gs before hval0 hW hcnd hsz
  have hval : ∀ (j : Nat) t v, Try.f5.params[j]? = some t → args[j]? = some v → Value.okWide Try.prog W .any base t v := hval0
  have hW' := hW
  obtain ⟨p, q, hA0, hV, rfl, hfz, hnd⟩ := hW
  have hA : DataW.TrodAll enc Try.prog W 0 (fun _ => true) true Try.f5.params.toList args.toList ds p := hA0
  rw [Try.params5] at hA hval
  obtain ⟨v0, vs0, d0, ds0, p0, q0, hargs, rfl, rfl, h0, r0⟩ := trodAll_cons hA
  obtain ⟨v1, vs1, d1, ds1, p1, q1, rfl, rfl, rfl, h1, r1⟩ := trodAll_cons r0
  obtain ⟨rfl, rfl, rfl⟩ := trodAll_nil r1
  obtain rfl : args = #[v0, v1] := by cases args; simp_all
  obtain ⟨rfl, rfl⟩ := trodVars_none hV
  have k0 := h0
  have lt0 : ∀ x ∈ p0, x.block < W.heap.size := by obtain ⟨m, hm⟩ := k0; exact DataW.trod_lt m _ _ _ hm
  have k1 := h1
  have lt1 : ∀ x ∈ p1, x.block < W.heap.size := by obtain ⟨m, hm⟩ := k1; exact DataW.trod_lt m _ _ _ hm
  obtain ⟨s0, rfl, hs0⟩ := open_set (hval 0 22 v0 rfl rfl) h0
  obtain ⟨a1, rfl, rfl, rfl, w1⟩ := open_int Try.underlying3 (hval 1 3 v1 rfl rfl) h1
  clear hA0 hval0
  refine (walk_bitsBack s0 hs0 a1 w1 W).mono fun e W' ⟨he, bel⟩ => ?_
  subst he
  exact ⟨_, rfl, _, _, _, [], _, [], hW', trodAll_mk1 (shut_bool Try.underlying4 _), (trodAll_cons_mk (Below.trod laidOut (by kernel_rfl) (of_decide_eq_true (by kernel_rfl)) k0 bel lt0) (trodAll_cons_mk (Below.trod laidOut (by kernel_rfl) (of_decide_eq_true (by kernel_rfl)) k1 bel lt1) trodAll_mk0)), rfl, bel.frame _, fun h => by cases h⟩

theorem bitsBack_holds : Rows.BitsBackSaid :=
  OpenClaim.holds_of_wide 5 Try.f5 rfl rfl rfl rfl rfl rfl rfl ⟨rfl, rfl, rfl, rfl, rfl⟩ rfl rfl rfl rfl rfl (by kernel_rfl) Try.func5 (by kernel_rfl)
    (of_decide_eq_true (by kernel_rfl)) (by unfold Func.isWrapper; first | (rw [if_pos (by decide +kernel)]; kernel_rfl) | (rw [if_neg (by decide +kernel)]; exact ⟨rfl, rfl⟩))
    (fun os started H enc _ => bitsBack_lifted os started H enc)

#print axioms bitsBack_holds
end Go.Proofs.Ytkeoghekeapgaaa
