/-
  Two pairs held against each other, as an operation.
  Conditions: none.
-/
import Derived.Test.YtcmbmocineegoaaTurns
namespace Go.Proofs.Ytcmbmocineegoaa
open Go.ChangeShapes Go.WideShapes Go.ChangeAt Go.RowKit
theorem due_eq (a b : D) : decide (a = b) = ((a.1 == b.1) && (a.2 == b.2)) := by
  rw [Bool.eq_iff_iff, decide_eq_true_eq, Bool.and_eq_true, beq_iff_eq, beq_iff_eq]
  exact ⟨fun h => by rw [h]; exact ⟨rfl, rfl⟩, fun h => Prod.ext h.1 h.2⟩
theorem run_eql_due_is {ρ : Operand → Value} {o : Oper} {t' : TypeId} {x y : Operand} (ho : o.op = .binOp .eql 30 x y t') {a b : D} (hx : ρ x = dv a) (hy : ρ y = dv b) (r : Bool) (hr : decide (a = b) = r) (w : World) :
    (execOp ρ o).run Try.prog w = .ok (.value (.bool r)) w := by
  unfold execOp
  rw [ho]
  simp only [hx, hy, dv]
  rw [due_eq] at hr
  subst hr
  have ht : Try.prog.underlying 30 = some (.struct (Try.prog.fieldsOf 30)) := by kernel_rfl
  have hp : Try.prog.stoodInHeld 30 = false := by kernel_rfl
  have hm : Try.prog.eqGuardType Try.prog.depth 30 = false := by kernel_rfl
  have h3 := Try.underlying3
  have hE : (Op.equalIn 10000 30 (.agg #[.int .i64 a.1, .int .i64 a.2]) (.agg #[.int .i64 b.1, .int .i64 b.2])).run Try.prog w = .ok ((a.1 == b.1) && (a.2 == b.2)) w := by
    rw [run_equalIn_agg w 9999 30 _ _ ht hp]
    have hf := ht.symm.trans Try.underlying30
    injection hf with hf
    injection hf with hf
    rw [hf]
    simp [Op.eqFields, go_sem, h3]
    by_cases e1 : a.1 = b.1 <;> by_cases e2 : a.2 = b.2 <;> simp [e1, e2]
  simp only [Sem.run_bind, run_eqGuard_agg _ _ _ _ _ _ _ hm, Result.andThen_ok, run_eql_struct, hE, Sem.run_pure]
end Go.Proofs.Ytcmbmocineegoaa
