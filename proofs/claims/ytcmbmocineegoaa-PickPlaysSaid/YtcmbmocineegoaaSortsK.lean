/-
  Small laws for HeapSorts: tests as operations, counts, rising lists.
  Conditions: none.
-/
import Derived.Test.YtcmbmocineegoaaEql
namespace Go.Proofs.Ytcmbmocineegoaa
open Go.ChangeShapes Go.WideShapes Go.ChangeAt Go.RowKit

section
variable {ρ : Operand → Value} {o : Oper}
theorem run_pick_is {c a b : Operand} (ho : o.op = .pick c a b) {t : Bool} (hc : ρ c = .bool t) (v : Value) (hv : (if t then ρ a else ρ b) = v) (w : World) : (execOp ρ o).run Try.prog w = .ok (.value v) w := by
  rw [← hv]; exact run_pick ho hc w
theorem run_len_sl {x : Operand} (ho : o.op = .call { callee := .builtin .len, args := #[x], argTypes := #[39] }) {a : Option Addr} {n c : Nat} (hx : ρ x = .slice a n c) (w : World) : (execOp ρ o).run Try.prog w = .ok (.value (.int .i64 (n : Int))) w := by
  unfold execOp
  rw [ho]
  simp [hx, go_sem, Try.underlying39]
theorem run_lss_is {t t' : TypeId} {x y : Operand} (ho : o.op = .binOp .lss t x y t') {a b : Int} (hx : ρ x = .int .i64 a) (hy : ρ y = .int .i64 b) (r : Bool) (hr : decide (a < b) = r) (w : World) : (execOp ρ o).run Try.prog w = .ok (.value (.bool r)) w := by
  refine run_ints_is ho hx hy ?_
  rw [← hr]
  simp [go_sem]
theorem run_gtr_is {t t' : TypeId} {x y : Operand} (ho : o.op = .binOp .gtr t x y t') {a b : Int} (hx : ρ x = .int .i64 a) (hy : ρ y = .int .i64 b) (r : Bool) (hr : decide (b < a) = r) (w : World) : (execOp ρ o).run Try.prog w = .ok (.value (.bool r)) w := by
  refine run_ints_is ho hx hy ?_
  rw [← hr]
  simp [go_sem]
theorem run_sub_is {t t' : TypeId} {x y : Operand} (ho : o.op = .binOp .sub t x y t') {a b : Int} (hx : ρ x = .int .i64 a) (hy : ρ y = .int .i64 b) (r : Int) (hr : a - b = r ∧ -9223372036854775808 ≤ r ∧ r ≤ 9223372036854775807) (w : World) : (execOp ρ o).run Try.prog w = .ok (.value (.int .i64 r)) w := by
  obtain ⟨rfl, h⟩ := hr
  exact run_sub_int ho hx hy h w
end
theorem rowc {w : World} {g : Nat} {x : D} (h : w.heap[g]? = some (.cells #[.int .i64 x.1, .int .i64 x.2] 30 (0, 0))) : w.cell? ⟨g, 0, none⟩ = some (.int .i64 x.1) ∧ w.cell? ⟨g, 0 + 1, none⟩ = some (.int .i64 x.2) := ⟨(at_of_row h).1, (at_of_row h).2.1⟩
theorem row_lt {w : World} {g : Nat} {o : Obj} (h : w.heap[g]? = some o) : g < w.heap.size := by
  rcases Nat.lt_or_ge g w.heap.size with hl | hl
  · exact hl
  · rw [Array.getElem?_eq_none hl] at h; cases h
theorem keep_row {w w' : World} {g : Nat} {x : D} (h : w.heap[g]? = some (.cells #[.int .i64 x.1, .int .i64 x.2] 30 (0, 0))) (hb : Below w.heap.size w w') : w'.heap[g]? = some (.cells #[.int .i64 x.1, .int .i64 x.2] 30 (0, 0)) := (hb.block g (row_lt h)).trans h
theorem count_next {l : List D} {k : Nat} (h : k < l.length) (x : D) : (l.take (k + 1)).count x = (l.take k).count x + if at_ l k = x then 1 else 0 := by
  have e : l.take (k + 1) = l.take k ++ [at_ l k] := by rw [List.take_add_one, at_some h]; rfl
  rw [e, List.count_append, List.count_singleton]
  by_cases hx : at_ l k = x
  · simp [hx]
  · simp [hx]
theorem rising_at {s : List D} (h : Rising s) {i j : Nat} (hij : i < j) (hj : j < s.length) : less (at_ s j) (at_ s i) = false := by
  have := List.pairwise_iff_getElem.1 h i j (by omega) hj hij
  have e1 := at_some hj
  have e2 := at_some (show i < s.length by omega)
  rw [List.getElem?_eq_getElem] at e1 e2
  rw [← Option.some.inj e1, ← Option.some.inj e2]
  exact this

end Go.Proofs.Ytcmbmocineegoaa
