/-
  The steps of a region that draws its order, where some operations make memory: what reads is taken first, the rest in whatever order comes up.
  Conditions: none.
-/
import Derived.Test.YtcmbmocineegoaaWithout
import Derived.OrdersHeld
namespace Go.Proofs.Ytcmbmocineegoaa
open Go.ChangeShapes Go.WideShapes Go.ChangeAt Go.RowKit
section
variable {ops : Array Oper} {C : World → Prop} {Q : Exit → Act → World → Prop} {a : Act} {o : Oper} {w : World} {fuel : Nat} {listed : Array Bool}
abbrev Go (ops : Array Oper) (C : World → Prop) (Q : Exit → Act → World → Prop) (fuel : Nat) (listed : Array Bool) (a : Act) (w : World) : Prop := Shut (wpAnyH Try.prog .any ops Q C fuel listed a w)
structure GOp (ops : Array Oper) (C : World → Prop) (Q : Exit → Act → World → Prop) (fuel : Nat) (listed : Array Bool) (i : Nat) (a : Act) (w : World) : Prop where
  out : wpOp Try.prog ops Q i (fun a' w' => C w' ∧ wpAnyH Try.prog .any ops Q C fuel (listed.setIfInBounds i true) a' w') a w
theorem g_region {id : Nat} {l : List Oper} (C : World → Prop) (n : Nat) (hn : l.length = n) (hm : Try.prog.follows .mixedOrders = true) (h : Go l.toArray C Q n (Array.replicate n false) a w.drew) : (Code.region id l.toArray true).wp Try.prog Q a w := by
  subst hn
  exact wp_region_held (S := C) hm h.out
theorem g_take (i : Nat) (hi : ops[i]? = some o) (d : Option Nat) (hd : o.dst = d) (hs : Region.noSelect ops = true) (hf : Region.free .any ops listed i = true) (hr : (Region.ready .any ops listed).contains i = true) {u : Value} (hQ : ∀ c a w, Q (.panic c) (a.put d u) w → Q (.panic c) a w)
    (hw : Region.wanted o (yielded ops a.tmps) = true) (hrun : ∀ w, C w → (execOp a.eval o).run Try.prog w = .ok (.value u) w) (hC : C w) (h : Go ops C Q fuel (listed.setIfInBounds i true) (a.put d u) w) : Go ops C Q (fuel + 1) listed a w := by
  subst hd
  exact ⟨wpAnyH_take hi hs hf hr hQ (.inl ⟨hw, hrun⟩) hC h.out⟩
theorem g_none (i : Nat) (hi : ops[i]? = some o) (d : Option Nat) (hd : o.dst = d) (hs : Region.noSelect ops = true) (hf : Region.free .any ops listed i = true) (hr : (Region.ready .any ops listed).contains i = true) (hQ : ∀ c a w, Q (.panic c) (a.put d undef) w → Q (.panic c) a w)
    (hw : Region.wanted o (yielded ops a.tmps) = false) (hC : C w) (h : Go ops C Q fuel (listed.setIfInBounds i true) (a.put d undef) w) : Go ops C Q (fuel + 1) listed a w := by
  subst hd
  exact ⟨wpAnyH_take hi hs hf hr hQ (.inr ⟨hw, rfl⟩) hC h.out⟩
theorem g_one (i : Nat) (hr : Region.ready .any ops listed = [i]) (h : GOp ops C Q fuel listed i a w) : Go ops C Q (fuel + 1) listed a w :=
  ⟨wpAnyH_all hr (by simp) (fun j hj => by rw [List.mem_singleton] at hj; subst hj; exact h.out)⟩
theorem g_two (i j : Nat) (hr : Region.ready .any ops listed = [i, j]) (h : GOp ops C Q fuel listed i a w) (k : GOp ops C Q fuel listed j a w) : Go ops C Q (fuel + 1) listed a w :=
  ⟨wpAnyH_all hr (by simp) (fun x hx => by
    rcases List.mem_cons.1 hx with e | hx
    · subst e; exact h.out
    · rw [List.mem_singleton] at hx; subst hx; exact k.out)⟩
theorem g_done (hr : Region.ready .any ops listed = []) (h : Q .normal a w) : Go ops C Q fuel listed a w := ⟨wpAnyH_done hr h _⟩
theorem g_wp {i : Nat} (hi : ops[i]? = some o) (hw : Region.wanted o (yielded ops a.tmps) = true)
    (h : ∀ K : Act → World → Prop, (∀ a' w', C w' → Go ops C Q fuel (listed.setIfInBounds i true) a' w' → K a' w') → o.wp Try.prog a w K Q) : GOp ops C Q fuel listed i a w :=
  ⟨by unfold wpOp; simp only [hi, hw, if_true]; exact .inl (h _ (fun a' w' hc hg => ⟨hc, hg.out⟩))⟩
theorem g_val {i : Nat} (hi : ops[i]? = some o) (d : Option Nat) (hd : o.dst = d) (hw : Region.wanted o (yielded ops a.tmps) = true) {u : Value} {w' : World} (hrun : (execOp a.eval o).run Try.prog w = .ok (.value u) w') (hC : C w')
    (h : Go ops C Q fuel (listed.setIfInBounds i true) (a.put d u) w') : GOp ops C Q fuel listed i a w := by
  subst hd
  exact g_wp hi hw fun K hK => by unfold Oper.wp; rw [hrun]; exact hK _ _ hC h
theorem g_call {i : Nat} (hi : ops[i]? = some o) (d : Option Nat) (hd : o.dst = d) (hw : Region.wanted o (yielded ops a.tmps) = true) {f : FuncId} {args : Array Value} {Φ : Ending → World → Prop} (hrun : (execOp a.eval o).run Try.prog w = .ok (.enter f args) w)
    (hc : Calls Try.prog f args w Φ) (h : ∀ e w', Φ e w' → ∃ v, e = .returned v ∧ C w' ∧ Go ops C Q fuel (listed.setIfInBounds i true) (a.put d v) w') : GOp ops C Q fuel listed i a w := by
  subst hd
  exact g_wp hi hw fun K hK => by
    unfold Oper.wp
    rw [hrun]
    exact hc.mono fun e w' he => by
      obtain ⟨v, rfl, hC, hg⟩ := h e w' he
      exact hK _ _ hC hg
/-- One append of a row that came in, or of the call's own, to a row of the call's own. -/
theorem g_append {i : Nat} (hi : ops[i]? = some o) (d : Option Nat) (hd : o.dst = d) (hw : Region.wanted o (yielded ops a.tmps) = true) (s x : Operand) (t : TypeId) (ho : o.op = .call { callee := .builtin .append, args := #[s, x], argTypes := #[t, t] })
    (base : Nat) (e : TypeId) (i0 : TypeInfo) (z : Value) (size bytes : Nat) (ht : Try.prog.underlying t = some (.slice e)) (hi0 : Try.prog.info? e = some i0) (hz : i0.zero = some z)
    (hsize : i0.size = size) (hby : i0.bytes = bytes) (hzs : z.cells.size = size) (hsz : 0 < size)
    (v : Value) (n : Nat) (xs : List Value) (hs : a.eval s = v) (hown : w.ownsRow base e size v n xs)
    (B : Nat) (A : Option Addr) (m c : Nat) (news : List Value) (hx : a.eval x = .slice A m c) (hr : Reads w B size A m news) (h1 : ∀ u ∈ news, u.oneCell' = true)
    (h63 : n + m ≤ maxLen) (hbytes : (n + m) * bytes ≤ 140737488355328) (hbase : base ≤ w.heap.size)
    (h : ∀ v' w', w'.ownsRow base e size v' (n + m) (xs ++ news) → w.grownBy w' v.ownBlock → (v'.ownBlock = v.ownBlock ∨ v'.ownBlock = some w.heap.size) → C w' ∧ Go ops C Q fuel (listed.setIfInBounds i true) (a.put d v') w') : GOp ops C Q fuel listed i a w := by
  subst hd
  exact g_wp hi hw fun _ hK => wp_append_any w s x t ho base e i0 z size bytes ht hi0 hz hsize hby hzs hsz v n xs hs hown B A m c news hx hr h1 h63 hbytes hbase fun v' w' h2 h3 h4 => hK _ _ (h v' w' h2 h3 h4).1 (h v' w' h2 h3 h4).2
end
section
variable {ρ : Operand → Value} {o : Oper}
theorem run_row0 {t e : TypeId} {s : Nat} (ht : Try.prog.underlying t = some (.slice e)) (hs : (Try.prog.info? e).map (·.size) = some s) (ho : o.op = .buildSlice t 0 #[]) (w : World) : (execOp ρ o).run Try.prog w = .ok (.value (.slice (some ⟨w.heap.size, 0, none⟩) 0 0)) (w.alloc (.cells #[] e)) := by
  unfold execOp
  rw [ho]
  simp [go_sem, Sem.run_bind, run_underlying ht, run_size hs]
theorem run_row1 {x : Operand} (ho : o.op = .buildSlice 22 1 #[(0, x)]) {d : D} (hx : ρ x = dv d) (w : World) : (execOp ρ o).run Try.prog w = .ok (.value (.slice (some ⟨w.heap.size, 0, none⟩) 1 1)) (w.alloc (.cells #[.int .i64 d.1, .int .i64 d.2] 29)) := by
  unfold execOp
  rw [ho]
  simp [go_sem, hx, dv]
theorem run_move_is (x : Operand) (v : Value) (ho : o.op = .move x) (hv : ρ x = v) (w : World) : (execOp ρ o).run Try.prog w = .ok (.value v) w := by
  rw [← hv]; unfold execOp; rw [ho]; simp
theorem run_assign_is (x : Operand) (v : Value) (ho : o.op = .assign x) (hv : ρ x = v) (w : World) : (execOp ρ o).run Try.prog w = .ok (.value v) w := by
  rw [← hv]; unfold execOp; rw [ho]; simp
theorem run_build30 {x0 x1 : Operand} (ho : o.op = .build 30 #[(0, x0), (1, x1)]) {a b : Int} (h0 : ρ x0 = .int .i64 a) (h1 : ρ x1 = .int .i64 b) (w : World) : (execOp ρ o).run Try.prog w = .ok (.value (.agg #[.int .i64 a, .int .i64 b])) w := by
  unfold execOp
  rw [ho]
  simp [go_sem, h0, h1]
theorem run_load_pair {t : TypeId} {fs : Array Field} (ht : Try.prog.underlying t = some (.struct fs)) (hs : (Try.prog.info? t).map (·.size) = some 2) {x : Operand} (ho : o.op = .load t x) {a : Addr} (hx : ρ x = .pointer (some a)) {d : D} {w : World} (h1 : w.cell? a = some (.int .i64 d.1)) (h2 : w.cell? (a.add 1) = some (.int .i64 d.2)) :
    (execOp ρ o).run Try.prog w = .ok (.value (dv d)) w := by
  unfold execOp
  rw [ho]
  have a0 : a.add 0 = a := by unfold Addr.add; simp
  have e1 : ∀ acc, (loadCellsFrom a 0 2 acc).run Try.prog w = .ok ((acc.push (.int .i64 d.1)).push (.int .i64 d.2)) w := fun acc => by
    simp [loadCellsFrom, Sem.run_bind, load, Sem.run, a0, h1, h2]
  simp [hx, Instr.loadAt, Instr.sureAddr, loadVar, isAgg, Sem.run_bind, run_underlying ht, run_size hs, loadCells, e1, dv]
end
end Go.Proofs.Ytcmbmocineegoaa
