/-
  The steps of a region that draws its order, behind a name that is not unfolded.
  Conditions: none.
-/
import Derived.Test.YtcmbmocineegoaaSortsK
import Derived.Deep.DeepCutAuto
namespace Go.Proofs.Ytcmbmocineegoaa
open Go.ChangeShapes Go.WideShapes Go.ChangeAt Go.RowKit
/-- A fact behind a name that does not unfold. -/
structure Shut (p : Prop) : Prop where
  out : p

section
variable {ops : Array Oper} {C : World → Prop} {Q : Act → Prop} {a : Act} {o : Oper} {rest : List Oper}
theorem r_skip (hw : Region.wanted o (yielded ops a.tmps) = false) (h : Shut (wpQuiet Try.prog ops C Q rest (a.put o.dst undef))) : Shut (wpQuiet Try.prog ops C Q (o :: rest) a) := Shut.mk (q_skip hw h.out)
theorem r_val (hw : Region.wanted o (yielded ops a.tmps) = true) {u : Value} (hr : ∀ w, C w → (execOp a.eval o).run Try.prog w = .ok (.value u) w) (h : Shut (wpQuiet Try.prog ops C Q rest (a.put o.dst u))) : Shut (wpQuiet Try.prog ops C Q (o :: rest) a) := Shut.mk (q_val hw hr h.out)
theorem r_call (hw : Region.wanted o (yielded ops a.tmps) = true) {f : FuncId} {args : Array Value} {v : Value} (hr : ∀ w, C w → (execOp a.eval o).run Try.prog w = .ok (.enter f args) w)
    (hc : ∀ w, C w → Calls Try.prog f args w fun e w'' => e = .returned v ∧ C w'') (h : Shut (wpQuiet Try.prog ops C Q rest (a.put o.dst v))) : Shut (wpQuiet Try.prog ops C Q (o :: rest) a) := Shut.mk (q_call hw hr hc h.out)
theorem r_move_is (hw : Region.wanted o (yielded ops a.tmps) = true) (x : Operand) (v : Value) (ho : o.op = .move x) (hv : a.eval x = v) (h : Shut (wpQuiet Try.prog ops C Q rest (a.put o.dst v))) : Shut (wpQuiet Try.prog ops C Q (o :: rest) a) := Shut.mk (q_move_is hw x v ho hv h.out)
theorem r_nil (h : Q a) : Shut (wpQuiet Try.prog ops C Q [] a) := Shut.mk (wpQuiet_nil h)
theorem r_region {id : Nat} {Q : Exit → Act → World → Prop} {a : Act} {w : World} {l : List Oper} (C : World → Prop) (hm : Try.prog.follows .mixedOrders = true) (hB : Region.lexB .any l.toArray = true) (hC : C w.drew)
    (h : Shut (wpQuiet Try.prog l.toArray C (fun a' => ∀ w', C w' → Q .normal a' w') l a)) : (Code.region id l.toArray true).wp Try.prog Q a w := region_class C hm hB hC h.out
/-- A guarded operation, its guard looked up. -/
theorem want_is {ops : Array Oper} {ts : Array Value} {o : Oper} (j d : Nat) (t b r : Bool) (hg : o.guard = some (j, t)) (ho : (ops[j]?).bind (·.dst) = some d) (hv : ts[d]? = some (.bool b)) (hb : (b == t) = r) : Region.wanted o (yielded ops ts) = r := by
  unfold Region.wanted yielded
  simp only [hg, ho, Option.bind_some, hv]
  rw [← hb]
  cases b <;> cases t <;> rfl
end
end Go.Proofs.Ytcmbmocineegoaa
