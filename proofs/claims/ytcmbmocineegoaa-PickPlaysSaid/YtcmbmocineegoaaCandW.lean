/-
  What Can, the test of who cannot, slices.Clone and slices.IndexFunc do.
  Conditions: none.
-/
import Derived.Test.YtcmbmocineegoaaCand
import Derived.Lib.SliceRun
namespace Go.Proofs.Ytcmbmocineegoaa
open Go.ChangeShapes Go.WideShapes Go.ChangeAt Go.RowKit
theorem size55 : (Try.prog.info? 55).map (·.size) = some 3 := by kernel_rfl
theorem size53 : (Try.prog.info? 53).map (·.size) = some 3 := by kernel_rfl
theorem info55 : (Try.prog.info? 55).map (fun i => (i.zero, i.size, i.bytes)) = some (some (.agg #[.int .i64 0, .int .i64 0, .int .i64 0]), 3, 24) := by kernel_rfl
section
variable {ρ : Operand → Value} {o : Oper}
theorem run_load_triple {t : TypeId} {fs : Array Field} (ht : Try.prog.underlying t = some (.struct fs)) (hs : (Try.prog.info? t).map (·.size) = some 3) {x : Operand} (ho : o.op = .load t x) {a : Addr} (hx : ρ x = .pointer (some a)) {d : C3} {w : World}
    (h : w.cell? a = some (.int .i64 d.1) ∧ w.cell? (a.add 1) = some (.int .i64 d.2.1) ∧ w.cell? (a.add 2) = some (.int .i64 d.2.2)) :
    (execOp ρ o).run Try.prog w = .ok (.value (.agg #[.int .i64 d.1, .int .i64 d.2.1, .int .i64 d.2.2])) w := by
  obtain ⟨h1, h2, h3⟩ := h
  unfold execOp
  rw [ho]
  have a0 : a.add 0 = a := by unfold Addr.add; simp
  have e1 : ∀ acc, (loadCellsFrom a 0 3 acc).run Try.prog w = .ok (((acc.push (.int .i64 d.1)).push (.int .i64 d.2.1)).push (.int .i64 d.2.2)) w := fun acc => by
    simp [loadCellsFrom, Sem.run_bind, load, Sem.run, a0, h1, h2, h3]
  simp [hx, Instr.loadAt, Instr.sureAddr, loadVar, isAgg, Sem.run_bind, run_underlying ht, run_size hs, loadCells, e1]
theorem run_eql_none {t e t' : TypeId} (ht : Try.prog.underlying t = some (.slice e)) {x y : Operand} (ho : o.op = .binOp .eql t x y t') {a : Option Addr} {n c : Nat} (hx : ρ x = .slice a n c) (hy : ρ y = .slice none 0 0) (r : Bool) (hr : a.isNone = r) (w : World) : (execOp ρ o).run Try.prog w = .ok (.value (.bool r)) w := by
  unfold execOp
  rw [ho]
  simp only [hx, hy]
  simp [eqGuard, Go.Lib.run_eql_slice_nil w t e a n c 0 0 ht, hr]
theorem run_fld55_0 {x : Operand} (ho : o.op = .fieldAddr 55 x 0) {a : Addr} (hx : ρ x = .pointer (some a)) (w : World) : (execOp ρ o).run Try.prog w = .ok (.value (.pointer (some a))) w := by
  unfold execOp; rw [ho]; simp [hx, go_sem]
theorem run_fld55_1 {x : Operand} (ho : o.op = .fieldAddr 55 x 1) {a : Addr} (hx : ρ x = .pointer (some a)) (w : World) : (execOp ρ o).run Try.prog w = .ok (.value (.pointer (some (a.add 1)))) w := by
  unfold execOp; rw [ho]; simp [hx, go_sem]
theorem run_fld55_2 {x : Operand} (ho : o.op = .fieldAddr 55 x 2) {a : Addr} (hx : ρ x = .pointer (some a)) (w : World) : (execOp ρ o).run Try.prog w = .ok (.value (.pointer (some (a.add 2)))) w := by
  unfold execOp; rw [ho]; simp [hx, go_sem]
theorem run_fld53_0 {x : Operand} (ho : o.op = .fieldAddr 53 x 0) {a : Addr} (hx : ρ x = .pointer (some a)) (w : World) : (execOp ρ o).run Try.prog w = .ok (.value (.pointer (some a))) w := by
  unfold execOp; rw [ho]; simp [hx, go_sem]
theorem run_fld53_1 {x : Operand} (ho : o.op = .fieldAddr 53 x 1) {a : Addr} (hx : ρ x = .pointer (some a)) (w : World) : (execOp ρ o).run Try.prog w = .ok (.value (.pointer (some (a.add 1)))) w := by
  unfold execOp; rw [ho]; simp [hx, go_sem]
theorem run_fld53_2 {x : Operand} (ho : o.op = .fieldAddr 53 x 2) {a : Addr} (hx : ρ x = .pointer (some a)) (w : World) : (execOp ρ o).run Try.prog w = .ok (.value (.pointer (some (a.add 2)))) w := by
  unfold execOp; rw [ho]; simp [hx, go_sem]
end
theorem can_any (c : C3) (w : World) : Calls Try.prog 27 #[tv c] w fun e w' => e = .returned (.bool (canC c)) ∧ Below w.heap.size w w' := by
  unfold tv
  by_cases h1 : 0 ≤ c.2.1
  · have hb1 : decide (0 ≤ c.2.1) = true := decide_eq_true h1
    have HC := Lib.hid (show decide (c.2.1 ≤ c.2.2) = canC c by unfold canC; rw [hb1]; rfl)
    go_enter Try.func27, Try.ntmps27
    go_wp2
    go_ret
    exact ⟨ret_bool HC.out, (Below.refl _ _).alloc (Nat.le_refl _) _⟩
  · have hb1 : decide (0 ≤ c.2.1) = false := decide_eq_false h1
    have HC := Lib.hid (show false = canC c by unfold canC; rw [hb1]; rfl)
    go_enter Try.func27, Try.ntmps27
    go_wp2
    go_ret
    exact ⟨ret_bool HC.out, (Below.refl _ _).alloc (Nat.le_refl _) _⟩
theorem cannot_any (c : C3) (w : World) : Calls Try.prog 33 #[tv c] w fun e w' => e = .returned (.bool (!canC c)) ∧ Below w.heap.size w w' := by
  have HC := Lib.hid (fun w => can_any c w)
  unfold tv at HC ⊢
  go_enter Try.func33, Try.ntmps33
  go_wp2_with fail
  refine (HC.out _).mono ?_
  rintro e w1 ⟨rfl, hb1⟩
  go_wp2
  go_ret
  exact ⟨rfl, ((Below.refl _ _).alloc (Nat.le_refl _) _).trans (hb1.mono (by simp))⟩

set_option maxRecDepth 100000 in
set_option maxHeartbeats 1000000 in
theorem clone_any (w : World) (A : Option Addr) (c : Nat) (l : List C3) (hr : CReads w w.heap.size A l) (hn : l.length ≤ 1000) :
    Calls Try.prog 32 #[.slice A l.length c] w fun e w' => ∃ v, e = .returned v ∧ w'.ownsRow w.heap.size 55 3 v l.length (tcells l) ∧ Below w.heap.size w w' := by
  obtain ⟨i0, hi0, hz0, hz1, hz2⟩ := info_parts info55
  rcases A with _ | ad
  · have hl : l = [] := by
      rcases Nat.eq_zero_or_pos l.length with h | h
      · exact List.eq_nil_of_length_eq_zero h
      · obtain ⟨ad, e, _⟩ := hr h; cases e
    subst hl
    go_enter Try.func32, Try.ntmps32
    go_wp2_with (refine l_val rfl (run_eql_none Try.underlying47 (x := .tmp 3) (y := .const (.slice none 0 0)) rfl rfl rfl true rfl _) ?_)
    go_ret
    exact ⟨_, rfl, World.ownsRow_nil _ _ _ _, Below.refl _ _⟩
  · have HR := Lib.hid ((hr.below ((Below.refl w.heap.size w).alloc (Nat.le_refl _) (.cells #[] 55))).more (Nat.le_of_lt (by simp : w.heap.size < (w.alloc (.cells #[] 55)).heap.size)))
    have OW0 := Lib.hid (World.ownsRow_lit (e := 55) (size := 3) (base := w.heap.size) w #[] 0 (Nat.le_refl _) (by unfold maxLen; omega) rfl)
    clear hr
    go_enter Try.func32, Try.ntmps32
    go_wp2_with (first | (refine l_val rfl (run_eql_none Try.underlying47 (x := .tmp 3) (y := .const (.slice none 0 0)) rfl rfl rfl false rfl _) ?_) | (at_builtin; refine wpList_append_any _ rfl (.tmp 5) (.tmp 6) _ rfl w.heap.size 55 i0 _ 3 24 Try.underlying47 hi0 hz0 hz1 hz2 rfl (by omega) (.slice (some ⟨w.heap.size, 0, none⟩) 0 0) 0 [] rfl OW0.out _ (some ad) l.length c (tcells l) rfl (creads_of HR.out) (tcells_one _) (by unfold maxLen; omega) (by omega) (by simp) ?_; intro v1 w1 hown1 hgr1 hat1))
    go_ret
    refine ⟨v1, rfl, ?_, ((Below.refl _ _).alloc (Nat.le_refl _) (.cells #[] 55)).grown hgr1 (by simp) (fun k hk => by cases hk; exact Nat.le_refl _)⟩
    rw [Nat.zero_add, List.nil_append] at hown1
    exact hown1

def FirstNot (l : List C3) (i : Nat) (k : Int) : Prop := (k = -1 ∧ i = l.length ∧ ∀ j, j < l.length → canC (at3 l j) = true) ∨ (k = (i : Int) ∧ i < l.length ∧ canC (at3 l i) = false ∧ ∀ j, j < i → canC (at3 l j) = true)
set_option maxRecDepth 100000 in
set_option maxHeartbeats 1000000 in
theorem index_any (w : World) (A : Option Addr) (c : Nat) (l : List C3) (hr : CReads w w.heap.size A l) (hn : l.length ≤ 1000) :
    Calls Try.prog 34 #[.slice A l.length c, .func (.func 33) #[] #[]] w fun e w' => ∃ (i : Nat) (k : Int), e = .returned (.int .i64 k) ∧ FirstNot l i k ∧ Below w.heap.size w w' := by
  have HR := Lib.hid hr
  clear hr
  go_enter Try.func34, Try.ntmps34
  go_wp2_with fail
  go_loopw [8] (fun i wr => ∃ k : Nat, i = .int .i64 k ∧ k ≤ l.length ∧ (∀ j, j < k → canC (at3 l j) = true) ∧ Below w.heap.size w wr) (fun i _ => l.length - (intOf i).toNat)
  case atStart => exact ⟨0, rfl, by omega, fun j hj => by omega, Below.refl _ _⟩
  case round =>
    obtain ⟨k, rfl, hk, hall, hb⟩ := hrel
    have B := Lib.hid hb
    have HA := Lib.hid hall
    clear hb hall
    by_cases hlt : k < l.length
    · have HLT := Lib.hid hlt
      obtain ⟨ad, rfl, _, hcell⟩ := (HR.out.below B.out) (by omega)
      have HX := Lib.hid (hcell k hlt)
      have HC := Lib.hid (fun w => cannot_any (at3 l k) w)
      unfold tv at HC
      clear hcell
      go_wp2_with (first | refine l_val rfl (run_at_T Try.underlying47 size55 (x := .tmp 12) (y := .tmp 13) (ad := ad) (i := k) rfl rfl rfl hlt _) ?_ | refine l_val rfl (run_load_triple Try.underlying55 size55 (x := .tmp 14) (d := at3 l k) rfl rfl HX.out) ?_)
      refine (HC.out _).mono ?_
      rintro e w2 ⟨rfl, hb2⟩
      have B2 := Lib.hid (B.out.trans (hb2.mono B.out.size))
      clear hb2
      cases hcan : canC (at3 l k) with
      | true =>
        go_wp2_with fail
        go_roundw
        case rel => exact ⟨k + 1, by go_num, HLT.out, fun j hj => by
          by_cases e : j = k
          · rw [e]; exact hcan
          · exact HA.out j (by omega), B2.out⟩
        case measure => have := HLT.out; simp [intOf]; omega
      | false =>
        have HCN := Lib.hid hcan
        go_wp2_with fail
        go_ret
        exact ⟨k, k, rfl, .inr ⟨rfl, HLT.out, HCN.out, HA.out⟩, B2.out⟩
    · have hkl : k = l.length := by omega
      go_wp2_with fail
      go_ret
      exact ⟨l.length, -1, rfl, .inl ⟨rfl, rfl, hkl ▸ HA.out⟩, B.out⟩
end Go.Proofs.Ytcmbmocineegoaa
