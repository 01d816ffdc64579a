/-
  Rows of pairs in memory; and what Less, New, Len, less and swap do.
  Conditions: none.
-/
import Derived.Test.YtcmbmocineegoaaDue
import Derived.Test.YtcmbmocineegoaaChecked
import Derived.Below
import Derived.Laws.OwnMore
import Derived.Deep.AppendLies
import Derived.Deep.Draws
import Derived.Laws.Rows
import Derived.Deep.RegionHeld3
import Derived.Deep.MidRow
namespace Go.Proofs.Ytcmbmocineegoaa
open Go.ChangeShapes Go.WideShapes Go.RowKit

/-- Nothing that was there turned, but in the blocks S. -/
structure Kept (S : Nat → Prop) (w w' : World) : Prop where
  os : w'.os = w.os
  tape : w'.tape = w.tape
  output : w'.output = w.output
  size : w.heap.size ≤ w'.heap.size
  block : ∀ k, k < w.heap.size → ¬ S k → w'.heap[k]? = w.heap[k]?
theorem Kept.refl (S : Nat → Prop) (w : World) : Kept S w w := ⟨rfl, rfl, rfl, Nat.le_refl _, fun _ _ _ => rfl⟩
theorem Kept.trans {S T U : Nat → Prop} {a b c : World} (h : Kept S a b) (k : Kept T b c) (hS : ∀ x, x < a.heap.size → S x → U x) (hT : ∀ x, x < a.heap.size → T x → U x) : Kept U a c :=
  ⟨k.os.trans h.os, k.tape.trans h.tape, k.output.trans h.output, Nat.le_trans h.size k.size, fun x hx hu => (k.block x (Nat.lt_of_lt_of_le hx h.size) (fun e => hu (hT x hx e))).trans (h.block x hx (fun e => hu (hS x hx e)))⟩
theorem Kept.of_below {w w' : World} (h : Below w.heap.size w w') (S : Nat → Prop) : Kept S w w' := ⟨h.os, h.tape, h.output, h.size, fun k hk _ => h.block k hk⟩
theorem Kept.below {S : Nat → Prop} {w w' : World} {B : Nat} (h : Kept S w w') (hB : B ≤ w.heap.size) (hS : ∀ k, k < B → ¬ S k) : Below B w w' := ⟨h.os, h.tape, h.output, h.size, fun k hk => h.block k (Nat.lt_of_lt_of_le hk hB) (hS k hk)⟩

/-- A row of pairs, whole. -/
structure HRow (w : World) (g cap : Nat) (l : List D) : Prop where
  ex : ∃ cur : Array Value, w.heap[g]? = some (.cells cur 30 (0, 0)) ∧ cur.size = cap * 2 ∧ ∀ j, j < l.length → cur[j * 2]? = some (.int .i64 (at_ l j).1) ∧ cur[j * 2 + 1]? = some (.int .i64 (at_ l j).2)
  cap_ : l.length ≤ cap
  max : cap ≤ maxLen
theorem HRow.lt {w : World} {g cap : Nat} {l : List D} (h : HRow w g cap l) : g < w.heap.size := by
  obtain ⟨cur, hg, _⟩ := h.ex
  rcases Nat.lt_or_ge g w.heap.size with h | h
  · exact h
  · rw [Array.getElem?_eq_none h] at hg; cases hg
theorem HRow.c1 {w : World} {g cap : Nat} {l : List D} (h : HRow w g cap l) {j : Nat} (hj : j < l.length) : w.cell? ⟨g, j * 2, none⟩ = some (.int .i64 (at_ l j).1) := by
  obtain ⟨cur, hg, _, hc⟩ := h.ex
  rw [cell_of_row w g _ cur 30 (0, 0) hg]; exact (hc j hj).1
theorem HRow.c2 {w : World} {g cap : Nat} {l : List D} (h : HRow w g cap l) {j : Nat} (hj : j < l.length) : w.cell? ⟨g, j * 2 + 1, none⟩ = some (.int .i64 (at_ l j).2) := by
  obtain ⟨cur, hg, _, hc⟩ := h.ex
  rw [cell_of_row w g _ cur 30 (0, 0) hg]; exact (hc j hj).2
theorem HRow.free {w : World} {g cap : Nat} {l : List D} (h : HRow w g cap l) (i : Nat) : w.frozen? ⟨g, i, none⟩ = false := by
  obtain ⟨cur, hg, _, hc⟩ := h.ex
  simp [World.frozen?, hg]
theorem HRow.keep {w w' : World} {g cap : Nat} {l : List D} (h : HRow w g cap l) (hk : w'.heap[g]? = w.heap[g]?) : HRow w' g cap l := ⟨by rw [hk]; exact h.ex, h.cap_, h.max⟩
theorem HRow.drew {w : World} {g cap : Nat} {l : List D} (h : HRow w g cap l) : HRow w.drew g cap l := ⟨h.ex, h.cap_, h.max⟩
/-- A pair is stored. -/
def putD (w : World) (g i : Nat) (d : D) : World := (w.setCell ⟨g, i * 2, none⟩ (.int .i64 d.1)).setCell ⟨g, i * 2 + 1, none⟩ (.int .i64 d.2)
theorem putD_other (w : World) (g i : Nat) (d : D) (k : Nat) (h : k ≠ g) : (putD w g i d).heap[k]? = w.heap[k]? := by
  unfold putD
  rw [Below.heap_setCell _ _ _ _ h, Below.heap_setCell _ _ _ _ h]
theorem putD_size (w : World) (g i : Nat) (d : D) : (putD w g i d).heap.size = w.heap.size := by unfold putD; simp
theorem putD_kept (w : World) (g i : Nat) (d : D) : Kept (· = g) w (putD w g i d) :=
  ⟨by unfold putD; rfl, by unfold putD; rfl, by unfold putD; rfl, by rw [putD_size]; exact Nat.le_refl _, fun k _ h => putD_other w g i d k h⟩
theorem HRow.put {w : World} {g cap : Nat} {l : List D} (h : HRow w g cap l) {i : Nat} (hi : i < l.length) (d : D) : HRow (putD w g i d) g cap (l.set i d) := by
  obtain ⟨⟨cur, hg, hs, hc⟩, hcap, hmax⟩ := h
  refine ⟨⟨(cur.setIfInBounds (i * 2) (.int .i64 d.1)).setIfInBounds (i * 2 + 1) (.int .i64 d.2), ?_, by simp [hs], fun j hj => ?_⟩, by simpa using hcap, hmax⟩
  · unfold putD
    simp [World.setCell, Array.getElem?_modify, hg]
  · rw [List.length_set] at hj
    have hat : at_ (l.set i d) j = if i = j then d else at_ l j := by
      unfold at_
      rw [List.getD_eq_getElem?_getD, List.getD_eq_getElem?_getD, List.getElem?_set]
      by_cases e : i = j
      · rw [if_pos e, if_pos e, if_pos hi]; rfl
      · rw [if_neg e, if_neg e]
    rw [hat]
    simp only [Array.getElem?_setIfInBounds, Array.size_setIfInBounds]
    obtain ⟨h1, h2⟩ := hc j hj
    by_cases e : i = j
    · subst e
      rw [if_pos rfl, if_neg (by omega), if_pos rfl, if_pos (by omega), if_pos rfl, if_pos (by omega)]
      exact ⟨rfl, rfl⟩
    · rw [if_neg e, if_neg (by omega), if_neg (by omega), if_neg (by omega), if_neg (by omega)]
      exact ⟨h1, h2⟩

/-- A pair as a value. -/
def dv (d : D) : Value := .agg #[.int .i64 d.1, .int .i64 d.2]

theorem ret_bool {a b : Bool} (h : a = b) : Ending.returned (.bool a) = .returned (.bool b) := by rw [h]
theorem size30 : (Try.prog.info? 30).map (·.size) = some 2 := by kernel_rfl
theorem info30 : (Try.prog.info? 30).map (fun i => (i.zero, i.size, i.bytes)) = some (some (.agg #[.int .i64 0, .int .i64 0]), 2, 16) := by kernel_rfl

section
variable {ρ : Operand → Value} {o : Oper}
theorem run_at_due {x y : Operand} (ho : o.op = .indexAddr 39 x y) {g n c i : Nat} (hx : ρ x = .slice (some ⟨g, 0, none⟩) n c) (hy : ρ y = .int .i64 (i : Int)) (hi : i < n) (w : World) :
    (execOp ρ o).run Try.prog w = .ok (.value (.pointer (some ⟨g, i * 2, none⟩))) w := by
  unfold execOp
  rw [ho]
  have hadd : (⟨g, 0, none⟩ : Addr).add (i * 2) = ⟨g, i * 2, none⟩ := by unfold Addr.add; split <;> simp_all
  have h : (Instr.indexAt 39 (.slice (some ⟨g, 0, none⟩) n c) (.int .i64 (i : Int))).run Try.prog w = .ok (.pointer (some ⟨g, i * 2, none⟩)) w := by
    simp [Instr.indexAt, asIntOf, Sem.run_bind, run_underlying Try.underlying39, run_size size30, hi, hadd]
  simp only [hx, hy, Sem.run_bind, h, Result.andThen_ok, Sem.run_pure]
theorem run_load_due {x : Operand} (ho : o.op = .load 30 x) {g i : Nat} (hx : ρ x = .pointer (some ⟨g, i, none⟩)) {d : D} {w : World} (h1 : w.cell? ⟨g, i, none⟩ = some (.int .i64 d.1)) (h2 : w.cell? ⟨g, i + 1, none⟩ = some (.int .i64 d.2)) :
    (execOp ρ o).run Try.prog w = .ok (.value (dv d)) w := by
  unfold execOp
  rw [ho]
  have a0 : (⟨g, i, none⟩ : Addr).add 0 = ⟨g, i, none⟩ := by unfold Addr.add; simp
  have a1 : (⟨g, i, none⟩ : Addr).add 1 = ⟨g, i + 1, none⟩ := by unfold Addr.add; simp
  have e1 : ∀ acc, (loadCellsFrom ⟨g, i, none⟩ 0 2 acc).run Try.prog w = .ok ((acc.push (.int .i64 d.1)).push (.int .i64 d.2)) w := fun acc => by
    simp [loadCellsFrom, Sem.run_bind, load, Sem.run, a0, a1, h1, h2]
  simp [hx, Instr.loadAt, Instr.sureAddr, loadVar, isAgg, Sem.run_bind, run_underlying Try.underlying30, run_size size30, loadCells, e1, dv]
end

theorem less_any (a b : D) (w : World) : Calls Try.prog 20 #[dv a, dv b] w fun e w' => e = .returned (.bool (less a b)) ∧ Below w.heap.size w w' := by
  unfold dv
  have HL := Lib.hid (less_iff a b)
  by_cases h : a.1 = b.1
  · have hb : (a.1 == b.1) = true := beq_iff_eq.2 h
    have HB : less a b = decide (a.2 < b.2) := by unfold less; rw [if_pos h]
    go_enter Try.func20, Try.ntmps20
    go_wp2
    go_ret
    exact ⟨ret_bool HB.symm, ((Below.refl _ _).alloc (Nat.le_refl _) _).alloc (by simp) _⟩
  · have hb : (a.1 == b.1) = false := beq_eq_false_iff_ne.2 h
    have HB : less a b = decide (a.1 < b.1) := by unfold less; rw [if_neg h]
    go_enter Try.func20, Try.ntmps20
    go_wp2
    go_ret
    exact ⟨ret_bool HB.symm, ((Below.refl _ _).alloc (Nat.le_refl _) _).alloc (by simp) _⟩

end Go.Proofs.Ytcmbmocineegoaa
