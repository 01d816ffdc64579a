/-
  Errors with tags: tag.Tag around a number; tag.Same on nil and on such an error.
  Conditions: none.
-/
import Derived.Test.YtnlolhlbpdmljaaGreatDoorPack
import Derived.LaidEql
import Derived.Stop.Asserts
import Derived.RowKitTokens
import Derived.Lib.IfaceEq
namespace Go.Proofs.YtnlolhlbpdmljaaGreatDoor
open Go.ChangeShapes Go.WideShapes Go.RowKit Go.Extern.Stop Go.Stop Go.Extern

theorem ty61 (v : Value) (w : World) : (Extern.ReflectliteType.typeOf #[.iface 61 v]).run Tryz.prog w = .ok (.iface 148 (.agg #[.pointer (some ⟨1, 61, none⟩)])) w := by kernel_rfl
theorem noIs61 (v : Value) (xT : TypeId) (w : World) : (Instr.typeAssert (.iface 61 v) xT 176 true).run Tryz.prog w = .ok (.tuple #[.nilIface, .bool false]) w := run_typeAssert_lacksB Tryz.underlying176 (by kernel_rfl) (by kernel_rfl) v xT w
theorem noUnwrap61 (v : Value) (xT : TypeId) (w : World) : (Instr.typeAssert (.iface 61 v) xT 155 true).run Tryz.prog w = .ok (.tuple #[.nilIface, .bool false]) w := run_typeAssert_lacksB Tryz.underlying155 (by kernel_rfl) (by kernel_rfl) v xT w
theorem noUnwraps61 (v : Value) (xT : TypeId) (w : World) : (Instr.typeAssert (.iface 61 v) xT 156 true).run Tryz.prog w = .ok (.tuple #[.nilIface, .bool false]) w := run_typeAssert_lacksB Tryz.underlying156 (by kernel_rfl) (by kernel_rfl) v xT w
theorem noIs102 (v : Value) (xT : TypeId) (w : World) : (Instr.typeAssert (.iface 102 v) xT 176 true).run Tryz.prog w = .ok (.tuple #[.nilIface, .bool false]) w := run_typeAssert_lacksB Tryz.underlying176 (by kernel_rfl) (by kernel_rfl) v xT w
theorem hasUnwrap102 (v : Value) (xT : TypeId) (w : World) : (Instr.typeAssert (.iface 102 v) xT 155 true).run Tryz.prog w = .ok (.tuple #[.iface 102 v, .bool true]) w := run_typeAssert_hasB Tryz.underlying155 (by kernel_rfl) v xT w
theorem methodUnwrap (v : Value) (w : World) : (Go.method 341 102 v "Unwrap").run Tryz.prog w = .ok (150, v) w := by kernel_rfl
theorem methodComparable (v : Value) (w : World) : (Go.method 341 148 v "Comparable").run Tryz.prog w = .ok (156, v) w := by kernel_rfl
theorem comparable61 (w : World) : ((Extern.ReflectliteType.method fun t => do Go.Extern.Rtype.noPackHeld "Comparable" t; pure (.bool (← typeInfo t).comparable)) #[.agg #[.pointer (some ⟨1, 61, none⟩)]]).run Tryz.prog w = .ok (.bool true) w := by kernel_rfl
theorem callComparable (w : World) : (callFunc 156 #[.agg #[.pointer (some ⟨1, 61, none⟩)]]).run Tryz.prog w = .ok (.value (.bool true)) w := by
  have h156 := @run_callFunc_extern Tryz.prog 156 _ (Extern.ReflectliteType.method fun t => do Go.Extern.Rtype.noPackHeld "Comparable" t; pure (.bool (← typeInfo t).comparable)) Tryz.func156 (by kernel_rfl) (by kernel_rfl) (by kernel_rfl) (by kernel_rfl)
  rw [h156, comparable61]
  rfl

/-- An error with a tag, in memory. -/
def ErrAt (w : World) (g : Nat) (s : ByteArray) (n : Int) : Prop := w.heap[g]? = some (.cells #[.string s, .iface 61 (.int .i64 n)] 104 (0, 0))
set_option maxRecDepth 100000 in
set_option maxHeartbeats 1000000 in
theorem tag_any (s : ByteArray) (n : Int) (w : World) : Calls Tryz.prog 19 #[.string s, .iface 61 (.int .i64 n)] w fun e w' => e = .returned (.iface 102 (.pointer (some ⟨w.heap.size, 0, none⟩))) ∧ ErrAt w' w.heap.size s n ∧ Below w.heap.size w w' := by
  go_enter Tryz.func19, Tryz.ntmps19
  go_wp2
  go_ret
  exact ⟨rfl, heap_alloc_new w _, (Below.refl _ _).alloc (Nat.le_refl _) _⟩
set_option maxRecDepth 100000 in
set_option maxHeartbeats 1000000 in
theorem same_nil (n : Int) (w : World) : Calls Tryz.prog 20 #[.nilIface, .int .i64 n] w fun e w' => e = .returned (.bool false) ∧ w = w' := by
  have hn := run_eql_iface_nil_left (P := Tryz.prog) w 61 (.int .i64 n) Tryz.underlying26
  go_enter Tryz.func20, Tryz.ntmps20
  go_wp2
  go_ret
  exact ⟨rfl, rfl⟩
set_option maxRecDepth 100000 in
set_option maxHeartbeats 1000000 in
theorem same_tag (g : Nat) (s : ByteArray) (n m : Int) (w : World) (h : ErrAt w g s n) : Calls Tryz.prog 20 #[.iface 102 (.pointer (some ⟨g, 0, none⟩)), .int .i64 m] w fun e w' => e = .returned (.bool (decide (n = m))) ∧ w = w' := by
  have h65 := @run_callFunc_extern Tryz.prog 65 _ Extern.ReflectliteType.typeOf Tryz.func65 (by kernel_rfl) (by kernel_rfl) (by kernel_rfl) (by kernel_rfl)
  have h156 := callComparable
  have tT := ty61
  have mR := methodComparable
  have nE := noIs61
  have uE := noUnwrap61
  have vE := noUnwraps61
  have nW := noIs102
  have uW := hasUnwrap102
  have mU := methodUnwrap
  have hty := run_eql_iface_types (P := Tryz.prog) 102 61 (.pointer (some ⟨g, 0, none⟩)) (.int .i64 m) Tryz.underlying26 (by decide) w
  have heq := Go.Lib.run_eql_iface_int (P := Tryz.prog) w (t := 26) (tx := 61) (k := .i64) (q := .i64) n m Tryz.underlying26 (by kernel_rfl) Tryz.underlying61
  have c1 := cell_of_row w g 0 _ 104 (0, 0) h
  have c2 := cell_of_row w g 1 _ 104 (0, 0) h
  by_cases hnm : n = m
  · have hb : (n == m) = true := beq_iff_eq.2 hnm
    rw [decide_eq_true hnm]
    clear hnm
    go_enter Tryz.func20, Tryz.ntmps20
    go_wp2
    refine wp_loop_rounds 2 ?_
    rw [rounds_succ]
    go_wp2
    rw [rounds_succ]
    go_wp2
    go_ret
    exact ⟨rfl, rfl⟩
  · have hb : (n == m) = false := beq_eq_false_iff_ne.2 hnm
    rw [decide_eq_false hnm]
    clear hnm
    go_enter Tryz.func20, Tryz.ntmps20
    go_wp2
    refine wp_loop_rounds 2 ?_
    rw [rounds_succ]
    go_wp2
    rw [rounds_succ]
    go_wp2
    go_ret
    exact ⟨rfl, rfl⟩
/-- tag.Num of no error. -/
theorem num_nil (w : World) : Calls Tryz.prog 7 #[.nilIface] w fun e w' => e = .returned (.int .i64 0) ∧ w = w' := by
  go_enter Tryz.func7, Tryz.ntmps7
  go_wp2
  go_ret
  exact ⟨rfl, rfl⟩
end Go.Proofs.YtnlolhlbpdmljaaGreatDoor
