/-
  Rows of two-celled items of any type, and the operations that read them.
  Conditions: none.
-/
import Derived.Test.YtcmbmocineegoaaQuiet
import Derived.Test.YtcmbmocineegoaaAny
namespace Go.Proofs.Ytcmbmocineegoaa
open Go.ChangeShapes Go.WideShapes Go.ChangeAt Go.RowKit
theorem size29 : (Try.prog.info? 29).map (·.size) = some 2 := by kernel_rfl
theorem info29 : (Try.prog.info? 29).map (fun i => (i.zero, i.size, i.bytes)) = some (some (.agg #[.int .i64 0, .int .i64 0]), 2, 16) := by kernel_rfl
theorem own_reads {e : TypeId} {w : World} {B n : Nat} {v : Value} {l : List D} (h : w.ownsRow B e 2 v n (dcells l)) (hn : n = l.length) : ∃ (A : Option Addr) (c : Nat), v = .slice A n c ∧ n ≤ c ∧ DReads w w.heap.size A l := by
  subst hn
  obtain ⟨_, h2⟩ := h
  rcases h2 with ⟨rfl, h2⟩ | ⟨g, cap, cur, hv, hg, hh, hc, hm, hs, hcs⟩
  · exact ⟨none, 0, by rw [h2], by omega, fun h0 => by omega⟩
  · refine ⟨_, _, hv, hc, fun h0 => ⟨_, rfl, ?_, fun j hj => ?_⟩⟩
    · rcases Nat.lt_or_ge g w.heap.size with hl | hl
      · exact hl
      · rw [Array.getElem?_eq_none hl] at hh; cases hh
    · have hadd : ∀ j, (⟨g, 0, none⟩ : Addr).add j = ⟨g, j, none⟩ := fun j => by unfold Addr.add; split <;> simp_all
      have hadd2 : ∀ j, (⟨g, j, none⟩ : Addr).add 1 = ⟨g, j + 1, none⟩ := fun j => by unfold Addr.add; simp
      obtain ⟨a, b⟩ := dcells_at l j hj
      rw [← hcs, List.getElem?_take, if_pos (by omega), Array.getElem?_toList] at a
      rw [← hcs, List.getElem?_take, if_pos (by omega), Array.getElem?_toList] at b
      rw [hadd, hadd2, cell_of_row w g _ cur e (0, 0) hh, cell_of_row w g _ cur e (0, 0) hh]
      exact ⟨a, b⟩
theorem reads_cell {W w : World} {ad : Addr} {l : List D} {j : Nat} (h : DReads W W.heap.size (some ad) l) (hb : Below W.heap.size W w) (hj : j < l.length) : w.cell? (ad.add (j * 2)) = some (.int .i64 (at_ l j).1) ∧ w.cell? ((ad.add (j * 2)).add 1) = some (.int .i64 (at_ l j).2) := by
  obtain ⟨ad', e, _, hc⟩ := (h.below hb) (by omega)
  cases e
  exact hc j hj
section
variable {ρ : Operand → Value} {o : Oper}
theorem run_at_T {t e : TypeId} {s : Nat} (ht : Try.prog.underlying t = some (.slice e)) (hs : (Try.prog.info? e).map (·.size) = some s) {x y : Operand} (ho : o.op = .indexAddr t x y) {ad : Addr} {n c i : Nat} (hx : ρ x = .slice (some ad) n c) (hy : ρ y = .int .i64 (i : Int)) (hi : i < n) (w : World) :
    (execOp ρ o).run Try.prog w = .ok (.value (.pointer (some (ad.add (i * s))))) w := by
  unfold execOp
  rw [ho]
  have h : (Instr.indexAt t (.slice (some ad) n c) (.int .i64 (i : Int))).run Try.prog w = .ok (.pointer (some (ad.add (i * s)))) w := by
    simp [Instr.indexAt, asIntOf, Sem.run_bind, run_underlying ht, run_size hs, hi]
  simp only [hx, hy, Sem.run_bind, h, Result.andThen_ok, Sem.run_pure]
theorem run_fld29_0 {x : Operand} (ho : o.op = .fieldAddr 29 x 0) {a : Addr} (hx : ρ x = .pointer (some a)) (w : World) : (execOp ρ o).run Try.prog w = .ok (.value (.pointer (some a))) w := by
  unfold execOp; rw [ho]; simp [hx, go_sem]
theorem run_fld29_1 {x : Operand} (ho : o.op = .fieldAddr 29 x 1) {a : Addr} (hx : ρ x = .pointer (some a)) (w : World) : (execOp ρ o).run Try.prog w = .ok (.value (.pointer (some (a.add 1)))) w := by
  unfold execOp; rw [ho]; simp [hx, go_sem]
theorem run_fld30_0 {x : Operand} (ho : o.op = .fieldAddr 30 x 0) {a : Addr} (hx : ρ x = .pointer (some a)) (w : World) : (execOp ρ o).run Try.prog w = .ok (.value (.pointer (some a))) w := by
  unfold execOp; rw [ho]; simp [hx, go_sem]
theorem run_fld30_1 {x : Operand} (ho : o.op = .fieldAddr 30 x 1) {a : Addr} (hx : ρ x = .pointer (some a)) (w : World) : (execOp ρ o).run Try.prog w = .ok (.value (.pointer (some (a.add 1)))) w := by
  unfold execOp; rw [ho]; simp [hx, go_sem]
theorem run_len_T {t e : TypeId} (ht : Try.prog.underlying t = some (.slice e)) {x : Operand} (ho : o.op = .call { callee := .builtin .len, args := #[x], argTypes := #[t] }) {a : Option Addr} {n c : Nat} (hx : ρ x = .slice a n c) (w : World) : (execOp ρ o).run Try.prog w = .ok (.value (.int .i64 (n : Int))) w := by
  unfold execOp
  rw [ho]
  simp [hx, go_sem, ht]
theorem run_lss_i {t t' : TypeId} {x y : Operand} (ho : o.op = .binOp .lss t x y t') {a b : Int} (hx : ρ x = .int .i64 a) (hy : ρ y = .int .i64 b) (r : Bool) (hr : decide (a < b) = r) (w : World) : (execOp ρ o).run Try.prog w = .ok (.value (.bool r)) w := run_lss_is ho hx hy r hr w
theorem run_gtr_i {t t' : TypeId} {x y : Operand} (ho : o.op = .binOp .gtr t x y t') {a b : Int} (hx : ρ x = .int .i64 a) (hy : ρ y = .int .i64 b) (r : Bool) (hr : decide (b < a) = r) (w : World) : (execOp ρ o).run Try.prog w = .ok (.value (.bool r)) w := run_gtr_is ho hx hy r hr w
theorem run_leq_i {t t' : TypeId} {x y : Operand} (ho : o.op = .binOp .leq t x y t') {a b : Int} (hx : ρ x = .int .i64 a) (hy : ρ y = .int .i64 b) (r : Bool) (hr : decide (a ≤ b) = r) (w : World) : (execOp ρ o).run Try.prog w = .ok (.value (.bool r)) w := by
  refine run_ints_is ho hx hy ?_
  rw [← hr]
  simp [go_sem]
theorem run_geq_i {t t' : TypeId} {x y : Operand} (ho : o.op = .binOp .geq t x y t') {a b : Int} (hx : ρ x = .int .i64 a) (hy : ρ y = .int .i64 b) (r : Bool) (hr : decide (b ≤ a) = r) (w : World) : (execOp ρ o).run Try.prog w = .ok (.value (.bool r)) w := by
  refine run_ints_is ho hx hy ?_
  rw [← hr]
  simp [go_sem]
theorem run_eql_i {t t' : TypeId} {x y : Operand} (ho : o.op = .binOp .eql t x y t') {a b : Int} (hx : ρ x = .int .i64 a) (hy : ρ y = .int .i64 b) (r : Bool) (hr : decide (a = b) = r) (w : World) : (execOp ρ o).run Try.prog w = .ok (.value (.bool r)) w :=
  run_eql_int_is ho hx hy r (by rw [← hr]; rfl) w
theorem run_not_is {t : TypeId} {x : Operand} (ho : o.op = .unOp .not t x) {b : Bool} (hx : ρ x = .bool b) (r : Bool) (hr : (!b) = r) (w : World) : (execOp ρ o).run Try.prog w = .ok (.value (.bool r)) w := hr ▸ run_not ho hx w
end
end Go.Proofs.Ytcmbmocineegoaa
