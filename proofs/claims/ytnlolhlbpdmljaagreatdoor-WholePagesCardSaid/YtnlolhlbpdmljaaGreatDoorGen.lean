/-
  Laws of small steps that the walks of this seat share: appends, regions that draw their order, comparisons, rows.
  Conditions: none.
-/
import Derived.Test.YtnlolhlbpdmljaaGreatDoorKit
import Derived.Test.YtnlolhlbpdmljaaGreatDoorChecked
import Derived.Below
import Derived.Laws.OwnMore
import Derived.Deep.AppendLies
import Derived.Deep.Draws
import Derived.Laws.Rows
import Derived.Deep.RegionHeld3
import Derived.Deep.MidRow
import Derived.Deep.RegionLaw
import Derived.Deep.DeepCutAuto
import Derived.Maps.AppendAt
import Derived.OwnWalk
import Derived.OrdersHeld
import Derived.Laws.IdiomCopy
import Derived.Laws.MakeOwn
import Derived.Laws.ResultCell
import Derived.Lib.SliceRun
namespace Go.Proofs.YtnlolhlbpdmljaaGreatDoor
open Go.ChangeShapes Go.WideShapes Go.RowKit
structure Kept (S : Nat → Prop) (w w' : World) : Prop where
  os : w'.os = w.os
  tape : w'.tape = w.tape
  output : w'.output = w.output
  size : w.heap.size ≤ w'.heap.size
  block : ∀ k, k < w.heap.size → ¬ S k → w'.heap[k]? = w.heap[k]?
theorem Kept.refl (S : Nat → Prop) (w : World) : Kept S w w := ⟨rfl, rfl, rfl, Nat.le_refl _, fun _ _ _ => rfl⟩
theorem Kept.trans {S T U : Nat → Prop} {a b c : World} (h : Kept S a b) (k : Kept T b c) (hS : ∀ x, x < a.heap.size → S x → U x) (hT : ∀ x, x < a.heap.size → T x → U x) : Kept U a c :=
  ⟨k.os.trans h.os, k.tape.trans h.tape, k.output.trans h.output, Nat.le_trans h.size k.size, fun x hx hu => (k.block x (Nat.lt_of_lt_of_le hx h.size) (fun e => hu (hT x hx e))).trans (h.block x hx (fun e => hu (hS x hx e)))⟩
theorem Kept.of_below {w w' : World} (h : Below w.heap.size w w') (S : Nat → Prop) : Kept S w w' := ⟨h.os, h.tape, h.output, h.size, fun k hk _ => h.block k hk⟩
theorem Kept.below {S : Nat → Prop} {w w' : World} {B : Nat} (h : Kept S w w') (hB : B ≤ w.heap.size) (hS : ∀ k, k < B → ¬ S k) : Below B w w' := ⟨h.os, h.tape, h.output, h.size, fun k hk => h.block k (Nat.lt_of_lt_of_le hk hB) (hS k hk)⟩
theorem kept_below {S : Nat → Prop} {B : Nat} {w w' : World} (h : Kept S w w') (hB : B ≤ w.heap.size) (hS : ∀ k, S k → B ≤ k) : Below B w w' :=
  h.below hB fun k hk hs => by have := hS k hs; omega
theorem block_add (a : Addr) (n : Nat) : (a.add n).block = a.block := by unfold Addr.add; split <;> rfl
theorem add_add (a : Addr) (i j : Nat) : (a.add i).add j = a.add (i + j) := by
  unfold Addr.add
  by_cases hi : i = 0 <;> by_cases hj : j = 0 <;> simp [hi, hj, Nat.add_assoc]
theorem own_lt {w : World} {B e s n : Nat} {v : Value} {xs : List Value} (h : w.ownsRow B e s v n xs) {k : Nat} (hk : v.ownBlock = some k) : k < w.heap.size ∧ B ≤ k := by
  rcases h.2 with ⟨rfl, _⟩ | ⟨g, cap, cur, rfl, hB, hg, _⟩
  · simp [Value.ownBlock] at hk
  · have e : g = k := by simpa [Value.ownBlock] using hk
    subst e
    refine ⟨?_, hB⟩
    rcases Nat.lt_or_ge g w.heap.size with hl | hl
    · exact hl
    · rw [Array.getElem?_eq_none hl] at hg; cases hg
theorem own_slice {w : World} {B e s n : Nat} {v : Value} {xs : List Value} (h : w.ownsRow B e s v n xs) : ∃ a c, v = .slice a n c := by
  rcases h.2 with ⟨rfl, hn⟩ | ⟨g, cap, cur, rfl, _⟩
  · exact ⟨none, 0, by rw [hn]⟩
  · exact ⟨_, _, rfl⟩
theorem own_row {w w' : World} {B e s n : Nat} {v : Value} {xs : List Value} (h : w.ownsRow B e s v n xs) (hk : ∀ k, v.ownBlock = some k → w'.heap[k]? = w.heap[k]?) : w'.ownsRow B e s v n xs := by
  refine ⟨h.1, ?_⟩
  rcases h.2 with hh | ⟨g, cap, cur, rfl, hB, hg, hr⟩
  · exact .inl hh
  · exact .inr ⟨g, cap, cur, rfl, hB, (hk g rfl).trans hg, hr⟩
theorem own_base {w : World} {B B' e s n : Nat} {v : Value} {xs : List Value} (h : w.ownsRow B e s v n xs) (hB : B' ≤ B) : w.ownsRow B' e s v n xs := by
  refine ⟨h.1, ?_⟩
  rcases h.2 with hh | ⟨g, cap, cur, rfl, hb, hr⟩
  · exact .inl hh
  · exact .inr ⟨g, cap, cur, rfl, Nat.le_trans hB hb, hr⟩
section
variable {ρ : Operand → Value} {o : Oper}
theorem run_pick_is {c a b : Operand} (ho : o.op = .pick c a b) {t : Bool} (hc : ρ c = .bool t) (v : Value) (hv : (if t then ρ a else ρ b) = v) (w : World) : (execOp ρ o).run Tryz.prog w = .ok (.value v) w := by
  rw [← hv]; exact run_pick ho hc w
end
theorem row_lt {w : World} {g : Nat} {o : Obj} (h : w.heap[g]? = some o) : g < w.heap.size := by
  rcases Nat.lt_or_ge g w.heap.size with hl | hl
  · exact hl
  · rw [Array.getElem?_eq_none hl] at h; cases h
section
variable {P : Program} (w : World)
def Reads (w : World) (B size : Nat) (A : Option Addr) (n : Nat) (xs : List Value) : Prop :=
  xs.length = n * size ∧ (0 < n → ∃ ad, A = some ad ∧ ad.block < B ∧ ∀ j u, xs[j]? = some u → w.cell? (ad.add j) = some u)
theorem run_append_of_nil (base : Nat) (t ty e : TypeId) (i : TypeInfo) (size : Nat) (ht : P.underlying t = some (.slice e)) (hi : P.info? e = some i)
    (v : Value) (n : Nat) (xs : List Value) (hown : w.ownsRow base e size v n xs) (c : Nat) : (Builtin.append_ #[t, t] ty #[v, .slice none 0 c]).run P w = .ok v w := by
  rcases hown.2 with ⟨rfl, rfl⟩ | ⟨g, cap, cur, rfl, _, _, hnc, _⟩
  · simp [Builtin.append_, run_underlying ht, sizeOf, typeInfo, hi, Builtin.lenOf, Builtin.firstCells]
  · simp [Builtin.append_, run_underlying ht, sizeOf, typeInfo, hi, Builtin.lenOf, Builtin.firstCells, hnc, storeCells]
theorem run_append_any (base : Nat) (t ty e : TypeId) (i : TypeInfo) (z : Value) (size bytes : Nat) (ht : P.underlying t = some (.slice e)) (hi : P.info? e = some i) (hz : i.zero = some z)
    (hsize : i.size = size) (hby : i.bytes = bytes) (hzs : z.cells.size = size) (hsz : 0 < size)
    (v : Value) (n : Nat) (xs : List Value) (hown : w.ownsRow base e size v n xs)
    (B : Nat) (A : Option Addr) (m c : Nat) (news : List Value) (hr : Reads w B size A m news) (h1 : ∀ u ∈ news, u.oneCell' = true)
    (h63 : n + m ≤ maxLen) (hbytes : (n + m) * bytes ≤ 140737488355328) (hbase : base ≤ w.heap.size) :
    ∃ v' w', (Builtin.append_ #[t, t] ty #[v, .slice A m c]).run P w = .ok v' w' ∧ w'.ownsRow base e size v' (n + m) (xs ++ news) ∧ w.grownBy w' v.ownBlock ∧
      (v'.ownBlock = v.ownBlock ∨ v'.ownBlock = some w.heap.size) := by
  rcases A with _ | ad
  · have hm : m = 0 := by
      rcases Nat.eq_zero_or_pos m with h0 | h0
      · exact h0
      · obtain ⟨ad, h, _⟩ := hr.2 h0
        cases h
    subst hm
    have hn : news = [] := List.eq_nil_of_length_eq_zero (by simpa using hr.1)
    subst hn
    exact ⟨v, w, run_append_of_nil w base t ty e i size ht hi v n xs hown c, by simpa using hown, World.grownBy.refl w _, .inl rfl⟩
  · have hcells : ∀ j u, news[j]? = some u → w.cell? (ad.add j) = some u := by
      intro j u hu
      rcases Nat.eq_zero_or_pos m with h0 | h0
      · subst h0
        have hn : news = [] := List.eq_nil_of_length_eq_zero (by simpa using hr.1)
        subst hn
        simp at hu
      · obtain ⟨ad', h, _, hc⟩ := hr.2 h0
        injection h with h
        subst h
        exact hc j u hu
    obtain ⟨v', w', hrun, h2, h3, _, h5⟩ := run_append_own_at (P := P) w base t ty e i z size bytes ht hi hz hsize hby hzs hsz v n xs hown ad m c news hr.1 hcells h1 h63 hbytes hbase
    exact ⟨v', w', hrun, h2, h3, h5⟩
theorem wp_append_any {o : Oper} {a : Act} {K : Act → World → Prop} {Q : Exit → Act → World → Prop} (s x : Operand) (t : TypeId)
    (ho : o.op = .call { callee := .builtin .append, args := #[s, x], argTypes := #[t, t] })
    (base : Nat) (e : TypeId) (i : TypeInfo) (z : Value) (size bytes : Nat) (ht : P.underlying t = some (.slice e)) (hi : P.info? e = some i) (hz : i.zero = some z)
    (hsize : i.size = size) (hby : i.bytes = bytes) (hzs : z.cells.size = size) (hsz : 0 < size)
    (v : Value) (n : Nat) (xs : List Value) (hs : a.eval s = v) (hown : w.ownsRow base e size v n xs)
    (B : Nat) (A : Option Addr) (m c : Nat) (news : List Value) (hx : a.eval x = .slice A m c) (hr : Reads w B size A m news) (h1 : ∀ u ∈ news, u.oneCell' = true)
    (h63 : n + m ≤ maxLen) (hbytes : (n + m) * bytes ≤ 140737488355328) (hbase : base ≤ w.heap.size)
    (h : ∀ v' w', w'.ownsRow base e size v' (n + m) (xs ++ news) → w.grownBy w' v.ownBlock → (v'.ownBlock = v.ownBlock ∨ v'.ownBlock = some w.heap.size) → K (a.put o.dst v') w') : o.wp P a w K Q := by
  obtain ⟨v', w', hrun, h2, h3, h4⟩ := run_append_any (P := P) w base t o.type e i z size bytes ht hi hz hsize hby hzs hsz v n xs hown B A m c news hr h1 h63 hbytes hbase
  unfold Oper.wp execOp
  simp only [ho, resolve, invoke, builtin, Sem.run_bind, Sem.run_pure, Result.andThen_ok, List.map_toArray, List.map_cons, List.map_nil, hs, hx, hrun]
  exact h v' w' h2 h3 h4
theorem wpList_append_any {ops : Array Oper} {rest : List Oper} {o : Oper} {a : Act} {Q : Exit → Act → World → Prop} (hgd : o.guard = none) (s x : Operand) (t : TypeId)
    (ho : o.op = .call { callee := .builtin .append, args := #[s, x], argTypes := #[t, t] })
    (base : Nat) (e : TypeId) (i : TypeInfo) (z : Value) (size bytes : Nat) (ht : P.underlying t = some (.slice e)) (hi : P.info? e = some i) (hz : i.zero = some z)
    (hsize : i.size = size) (hby : i.bytes = bytes) (hzs : z.cells.size = size) (hsz : 0 < size)
    (v : Value) (n : Nat) (xs : List Value) (hs : a.eval s = v) (hown : w.ownsRow base e size v n xs)
    (B : Nat) (A : Option Addr) (m c : Nat) (news : List Value) (hx : a.eval x = .slice A m c) (hr : Reads w B size A m news) (h1 : ∀ u ∈ news, u.oneCell' = true)
    (h63 : n + m ≤ maxLen) (hbytes : (n + m) * bytes ≤ 140737488355328) (hbase : base ≤ w.heap.size)
    (h : ∀ v' w', w'.ownsRow base e size v' (n + m) (xs ++ news) → w.grownBy w' v.ownBlock → (v'.ownBlock = v.ownBlock ∨ v'.ownBlock = some w.heap.size) → wpList P ops Q rest (a.put o.dst v') w') : wpList P ops Q (o :: rest) a w :=
  wpList_plain hgd fun _ hK => wp_append_any w s x t ho base e i z size bytes ht hi hz hsize hby hzs hsz v n xs hs hown B A m c news hx hr h1 h63 hbytes hbase fun v' w' h2 h3 h4 => hK _ _ (h v' w' h2 h3 h4)
end
structure Shut (p : Prop) : Prop where
  out : p
section
variable {ops : Array Oper} {C : World → Prop} {Q : Act → Prop} {a : Act} {o : Oper} {rest : List Oper}
theorem r_skip (hw : Region.wanted o (yielded ops a.tmps) = false) (h : Shut (wpQuiet Tryz.prog ops C Q rest (a.put o.dst undef))) : Shut (wpQuiet Tryz.prog ops C Q (o :: rest) a) := Shut.mk (q_skip hw h.out)
theorem r_val (hw : Region.wanted o (yielded ops a.tmps) = true) {u : Value} (hr : ∀ w, C w → (execOp a.eval o).run Tryz.prog w = .ok (.value u) w) (h : Shut (wpQuiet Tryz.prog ops C Q rest (a.put o.dst u))) : Shut (wpQuiet Tryz.prog ops C Q (o :: rest) a) := Shut.mk (q_val hw hr h.out)
theorem r_call (hw : Region.wanted o (yielded ops a.tmps) = true) {f : FuncId} {args : Array Value} {v : Value} (hr : ∀ w, C w → (execOp a.eval o).run Tryz.prog w = .ok (.enter f args) w)
    (hc : ∀ w, C w → Calls Tryz.prog f args w fun e w'' => e = .returned v ∧ C w'') (h : Shut (wpQuiet Tryz.prog ops C Q rest (a.put o.dst v))) : Shut (wpQuiet Tryz.prog ops C Q (o :: rest) a) := Shut.mk (q_call hw hr hc h.out)
theorem r_move_is (hw : Region.wanted o (yielded ops a.tmps) = true) (x : Operand) (v : Value) (ho : o.op = .move x) (hv : a.eval x = v) (h : Shut (wpQuiet Tryz.prog ops C Q rest (a.put o.dst v))) : Shut (wpQuiet Tryz.prog ops C Q (o :: rest) a) := Shut.mk (q_move_is hw x v ho hv h.out)
theorem r_nil (h : Q a) : Shut (wpQuiet Tryz.prog ops C Q [] a) := Shut.mk (wpQuiet_nil h)
theorem r_region {id : Nat} {Q : Exit → Act → World → Prop} {a : Act} {w : World} {l : List Oper} (C : World → Prop) (hm : Tryz.prog.follows .mixedOrders = true) (hB : Region.lexB .any l.toArray = true) (hC : C w.drew)
    (h : Shut (wpQuiet Tryz.prog l.toArray C (fun a' => ∀ w', C w' → Q .normal a' w') l a)) : (Code.region id l.toArray true).wp Tryz.prog Q a w := region_class C hm hB hC h.out
theorem want_is {ops : Array Oper} {ts : Array Value} {o : Oper} (j d : Nat) (t b r : Bool) (hg : o.guard = some (j, t)) (ho : (ops[j]?).bind (·.dst) = some d) (hv : ts[d]? = some (.bool b)) (hb : (b == t) = r) : Region.wanted o (yielded ops ts) = r := by
  unfold Region.wanted yielded
  simp only [hg, ho, Option.bind_some, hv]
  rw [← hb]
  cases b <;> cases t <;> rfl
end
section
variable {ρ : Operand → Value} {o : Oper}
theorem run_at_T {t e : TypeId} {s : Nat} (ht : Tryz.prog.underlying t = some (.slice e)) (hs : (Tryz.prog.info? e).map (·.size) = some s) {x y : Operand} (ho : o.op = .indexAddr t x y) {ad : Addr} {n c i : Nat} (hx : ρ x = .slice (some ad) n c) (hy : ρ y = .int .i64 (i : Int)) (hi : i < n) (w : World) :
    (execOp ρ o).run Tryz.prog w = .ok (.value (.pointer (some (ad.add (i * s))))) w := by
  unfold execOp
  rw [ho]
  have h : (Instr.indexAt t (.slice (some ad) n c) (.int .i64 (i : Int))).run Tryz.prog w = .ok (.pointer (some (ad.add (i * s)))) w := by
    simp [Instr.indexAt, asIntOf, Sem.run_bind, run_underlying ht, run_size hs, hi]
  simp only [hx, hy, Sem.run_bind, h, Result.andThen_ok, Sem.run_pure]
theorem run_len_T {t e : TypeId} (ht : Tryz.prog.underlying t = some (.slice e)) {x : Operand} (ho : o.op = .call { callee := .builtin .len, args := #[x], argTypes := #[t] }) {a : Option Addr} {n c : Nat} (hx : ρ x = .slice a n c) (w : World) : (execOp ρ o).run Tryz.prog w = .ok (.value (.int .i64 (n : Int))) w := by
  unfold execOp
  rw [ho]
  simp [hx, go_sem, ht]
end
section
variable {ρ : Operand → Value} {o : Oper}
theorem run_lss_k {t t' : TypeId} {k : IntKind} {x y : Operand} (ho : o.op = .binOp .lss t x y t') {a b : Int} (hx : ρ x = .int k a) (hy : ρ y = .int k b) (r : Bool) (hr : decide (a < b) = r) (w : World) : (execOp ρ o).run Tryz.prog w = .ok (.value (.bool r)) w := by
  refine run_ints_is ho hx hy ?_
  rw [← hr]
  simp [go_sem]
theorem run_lss_i {t t' : TypeId} {x y : Operand} (ho : o.op = .binOp .lss t x y t') {a b : Int} (hx : ρ x = .int .i64 a) (hy : ρ y = .int .i64 b) (r : Bool) (hr : decide (a < b) = r) (w : World) : (execOp ρ o).run Tryz.prog w = .ok (.value (.bool r)) w := run_lss_k ho hx hy r hr w
theorem run_gtr_k {t t' : TypeId} {k : IntKind} {x y : Operand} (ho : o.op = .binOp .gtr t x y t') {a b : Int} (hx : ρ x = .int k a) (hy : ρ y = .int k b) (r : Bool) (hr : decide (b < a) = r) (w : World) : (execOp ρ o).run Tryz.prog w = .ok (.value (.bool r)) w := by
  refine run_ints_is ho hx hy ?_
  rw [← hr]
  simp [go_sem]
theorem run_gtr_i {t t' : TypeId} {x y : Operand} (ho : o.op = .binOp .gtr t x y t') {a b : Int} (hx : ρ x = .int .i64 a) (hy : ρ y = .int .i64 b) (r : Bool) (hr : decide (b < a) = r) (w : World) : (execOp ρ o).run Tryz.prog w = .ok (.value (.bool r)) w := run_gtr_k ho hx hy r hr w
theorem run_leq_k {t t' : TypeId} {k : IntKind} {x y : Operand} (ho : o.op = .binOp .leq t x y t') {a b : Int} (hx : ρ x = .int k a) (hy : ρ y = .int k b) (r : Bool) (hr : decide (a ≤ b) = r) (w : World) : (execOp ρ o).run Tryz.prog w = .ok (.value (.bool r)) w := by
  refine run_ints_is ho hx hy ?_
  rw [← hr]
  simp [go_sem]
theorem run_leq_i {t t' : TypeId} {x y : Operand} (ho : o.op = .binOp .leq t x y t') {a b : Int} (hx : ρ x = .int .i64 a) (hy : ρ y = .int .i64 b) (r : Bool) (hr : decide (a ≤ b) = r) (w : World) : (execOp ρ o).run Tryz.prog w = .ok (.value (.bool r)) w := run_leq_k ho hx hy r hr w
theorem run_geq_k {t t' : TypeId} {k : IntKind} {x y : Operand} (ho : o.op = .binOp .geq t x y t') {a b : Int} (hx : ρ x = .int k a) (hy : ρ y = .int k b) (r : Bool) (hr : decide (b ≤ a) = r) (w : World) : (execOp ρ o).run Tryz.prog w = .ok (.value (.bool r)) w := by
  refine run_ints_is ho hx hy ?_
  rw [← hr]
  simp [go_sem]
theorem run_geq_i {t t' : TypeId} {x y : Operand} (ho : o.op = .binOp .geq t x y t') {a b : Int} (hx : ρ x = .int .i64 a) (hy : ρ y = .int .i64 b) (r : Bool) (hr : decide (b ≤ a) = r) (w : World) : (execOp ρ o).run Tryz.prog w = .ok (.value (.bool r)) w := run_geq_k ho hx hy r hr w
theorem run_eql_i {t t' : TypeId} {k : IntKind} {x y : Operand} (ho : o.op = .binOp .eql t x y t') {a b : Int} (hx : ρ x = .int k a) (hy : ρ y = .int k b) (r : Bool) (hr : decide (a = b) = r) (w : World) : (execOp ρ o).run Tryz.prog w = .ok (.value (.bool r)) w :=
  run_eql_int_is ho hx hy r (by rw [← hr]; rfl) w
theorem run_neq_i {t t' : TypeId} {k : IntKind} {x y : Operand} (ho : o.op = .binOp .neq t x y t') {a b : Int} (hx : ρ x = .int k a) (hy : ρ y = .int k b) (r : Bool) (hr : decide (a ≠ b) = r) (w : World) : (execOp ρ o).run Tryz.prog w = .ok (.value (.bool r)) w := by
  unfold execOp
  rw [ho]
  simp only [hx, hy]
  rw [← hr]
  by_cases e : a = b
  · subst e; simp [eqGuard, binOp, Op.intCmp]
  · simp [eqGuard, binOp, Op.intCmp, e]
end
section
variable {ρ : Operand → Value} {o : Oper}
theorem run_not_is {t : TypeId} {x : Operand} (ho : o.op = .unOp .not t x) {b : Bool} (hx : ρ x = .bool b) (r : Bool) (hr : (!b) = r) (w : World) : (execOp ρ o).run Tryz.prog w = .ok (.value (.bool r)) w := hr ▸ run_not ho hx w
end
section
variable {ops : Array Oper} {C : World → Prop} {Q : Exit → Act → World → Prop} {a : Act} {o : Oper} {w : World} {fuel : Nat} {listed : Array Bool}
abbrev Go (ops : Array Oper) (C : World → Prop) (Q : Exit → Act → World → Prop) (fuel : Nat) (listed : Array Bool) (a : Act) (w : World) : Prop := Shut (wpAnyH Tryz.prog .any ops Q C fuel listed a w)
structure GOp (ops : Array Oper) (C : World → Prop) (Q : Exit → Act → World → Prop) (fuel : Nat) (listed : Array Bool) (i : Nat) (a : Act) (w : World) : Prop where
  out : wpOp Tryz.prog ops Q i (fun a' w' => C w' ∧ wpAnyH Tryz.prog .any ops Q C fuel (listed.setIfInBounds i true) a' w') a w
theorem g_region {id : Nat} {l : List Oper} (C : World → Prop) (n : Nat) (hn : l.length = n) (hm : Tryz.prog.follows .mixedOrders = true) (h : Go l.toArray C Q n (Array.replicate n false) a w.drew) : (Code.region id l.toArray true).wp Tryz.prog Q a w := by
  subst hn
  exact wp_region_held (S := C) hm h.out
theorem g_take (i : Nat) (hi : ops[i]? = some o) (d : Option Nat) (hd : o.dst = d) (hs : Region.noSelect ops = true) (hf : Region.free .any ops listed i = true) (hr : (Region.ready .any ops listed).contains i = true) {u : Value} (hQ : ∀ c a w, Q (.panic c) (a.put d u) w → Q (.panic c) a w)
    (hw : Region.wanted o (yielded ops a.tmps) = true) (hrun : ∀ w, C w → (execOp a.eval o).run Tryz.prog w = .ok (.value u) w) (hC : C w) (h : Go ops C Q fuel (listed.setIfInBounds i true) (a.put d u) w) : Go ops C Q (fuel + 1) listed a w := by
  subst hd
  exact ⟨wpAnyH_take hi hs hf hr hQ (.inl ⟨hw, hrun⟩) hC h.out⟩
theorem g_none (i : Nat) (hi : ops[i]? = some o) (d : Option Nat) (hd : o.dst = d) (hs : Region.noSelect ops = true) (hf : Region.free .any ops listed i = true) (hr : (Region.ready .any ops listed).contains i = true) (hQ : ∀ c a w, Q (.panic c) (a.put d undef) w → Q (.panic c) a w)
    (hw : Region.wanted o (yielded ops a.tmps) = false) (hC : C w) (h : Go ops C Q fuel (listed.setIfInBounds i true) (a.put d undef) w) : Go ops C Q (fuel + 1) listed a w := by
  subst hd
  exact ⟨wpAnyH_take hi hs hf hr hQ (.inr ⟨hw, rfl⟩) hC h.out⟩
theorem g_one (i : Nat) (hr : Region.ready .any ops listed = [i]) (h : GOp ops C Q fuel listed i a w) : Go ops C Q (fuel + 1) listed a w :=
  ⟨wpAnyH_all hr (by simp) (fun j hj => by rw [List.mem_singleton] at hj; subst hj; exact h.out)⟩
theorem g_two (i j : Nat) (hr : Region.ready .any ops listed = [i, j]) (h : GOp ops C Q fuel listed i a w) (k : GOp ops C Q fuel listed j a w) : Go ops C Q (fuel + 1) listed a w :=
  ⟨wpAnyH_all hr (by simp) (fun x hx => by
    rcases List.mem_cons.1 hx with e | hx
    · subst e; exact h.out
    · rw [List.mem_singleton] at hx; subst hx; exact k.out)⟩
theorem g_done (hr : Region.ready .any ops listed = []) (h : Q .normal a w) : Go ops C Q fuel listed a w := ⟨wpAnyH_done hr h _⟩
theorem g_wp {i : Nat} (hi : ops[i]? = some o) (hw : Region.wanted o (yielded ops a.tmps) = true)
    (h : ∀ K : Act → World → Prop, (∀ a' w', C w' → Go ops C Q fuel (listed.setIfInBounds i true) a' w' → K a' w') → o.wp Tryz.prog a w K Q) : GOp ops C Q fuel listed i a w :=
  ⟨by unfold wpOp; simp only [hi, hw, if_true]; exact .inl (h _ (fun a' w' hc hg => ⟨hc, hg.out⟩))⟩
theorem g_val {i : Nat} (hi : ops[i]? = some o) (d : Option Nat) (hd : o.dst = d) (hw : Region.wanted o (yielded ops a.tmps) = true) {u : Value} {w' : World} (hrun : (execOp a.eval o).run Tryz.prog w = .ok (.value u) w') (hC : C w')
    (h : Go ops C Q fuel (listed.setIfInBounds i true) (a.put d u) w') : GOp ops C Q fuel listed i a w := by
  subst hd
  exact g_wp hi hw fun K hK => by unfold Oper.wp; rw [hrun]; exact hK _ _ hC h
theorem g_call {i : Nat} (hi : ops[i]? = some o) (d : Option Nat) (hd : o.dst = d) (hw : Region.wanted o (yielded ops a.tmps) = true) {f : FuncId} {args : Array Value} {Φ : Ending → World → Prop} (hrun : (execOp a.eval o).run Tryz.prog w = .ok (.enter f args) w)
    (hc : Calls Tryz.prog f args w Φ) (h : ∀ e w', Φ e w' → ∃ v, e = .returned v ∧ C w' ∧ Go ops C Q fuel (listed.setIfInBounds i true) (a.put d v) w') : GOp ops C Q fuel listed i a w := by
  subst hd
  exact g_wp hi hw fun K hK => by
    unfold Oper.wp
    rw [hrun]
    exact hc.mono fun e w' he => by
      obtain ⟨v, rfl, hC, hg⟩ := h e w' he
      exact hK _ _ hC hg
theorem g_append {i : Nat} (hi : ops[i]? = some o) (d : Option Nat) (hd : o.dst = d) (hw : Region.wanted o (yielded ops a.tmps) = true) (s x : Operand) (t : TypeId) (ho : o.op = .call { callee := .builtin .append, args := #[s, x], argTypes := #[t, t] })
    (base : Nat) (e : TypeId) (i0 : TypeInfo) (z : Value) (size bytes : Nat) (ht : Tryz.prog.underlying t = some (.slice e)) (hi0 : Tryz.prog.info? e = some i0) (hz : i0.zero = some z)
    (hsize : i0.size = size) (hby : i0.bytes = bytes) (hzs : z.cells.size = size) (hsz : 0 < size)
    (v : Value) (n : Nat) (xs : List Value) (hs : a.eval s = v) (hown : w.ownsRow base e size v n xs)
    (B : Nat) (A : Option Addr) (m c : Nat) (news : List Value) (hx : a.eval x = .slice A m c) (hr : Reads w B size A m news) (h1 : ∀ u ∈ news, u.oneCell' = true)
    (h63 : n + m ≤ maxLen) (hbytes : (n + m) * bytes ≤ 140737488355328) (hbase : base ≤ w.heap.size)
    (h : ∀ v' w', w'.ownsRow base e size v' (n + m) (xs ++ news) → w.grownBy w' v.ownBlock → (v'.ownBlock = v.ownBlock ∨ v'.ownBlock = some w.heap.size) → C w' ∧ Go ops C Q fuel (listed.setIfInBounds i true) (a.put d v') w') : GOp ops C Q fuel listed i a w := by
  subst hd
  exact g_wp hi hw fun _ hK => wp_append_any w s x t ho base e i0 z size bytes ht hi0 hz hsize hby hzs hsz v n xs hs hown B A m c news hx hr h1 h63 hbytes hbase fun v' w' h2 h3 h4 => hK _ _ (h v' w' h2 h3 h4).1 (h v' w' h2 h3 h4).2
end
section
variable {ρ : Operand → Value} {o : Oper}
theorem run_row0 {t e : TypeId} {s : Nat} (ht : Tryz.prog.underlying t = some (.slice e)) (hs : (Tryz.prog.info? e).map (·.size) = some s) (ho : o.op = .buildSlice t 0 #[]) (w : World) : (execOp ρ o).run Tryz.prog w = .ok (.value (.slice (some ⟨w.heap.size, 0, none⟩) 0 0)) (w.alloc (.cells #[] e)) := by
  unfold execOp
  rw [ho]
  simp [go_sem, Sem.run_bind, run_underlying ht, run_size hs]
theorem run_move_is (x : Operand) (v : Value) (ho : o.op = .move x) (hv : ρ x = v) (w : World) : (execOp ρ o).run Tryz.prog w = .ok (.value v) w := by
  rw [← hv]; unfold execOp; rw [ho]; simp
theorem run_assign_is (x : Operand) (v : Value) (ho : o.op = .assign x) (hv : ρ x = v) (w : World) : (execOp ρ o).run Tryz.prog w = .ok (.value v) w := by
  rw [← hv]; unfold execOp; rw [ho]; simp
end
section
variable {ops : Array Oper} {C : World → Prop} {Q : Exit → Act → World → Prop} {a : Act} {o : Oper} {w : World} {fuel : Nat} {listed : Array Bool}
theorem g_skp {ops : Array Oper} {C : World → Prop} {Q : Exit → Act → World → Prop} {a : Act} {o : Oper} {w : World} {fuel : Nat} {listed : Array Bool} {i : Nat} (hi : ops[i]? = some o) (hd : o.dst = none) (hw : Region.wanted o (yielded ops a.tmps) = true) {w' : World} (hrun : (execOp a.eval o).run Tryz.prog w = .ok .skip w') (hC : C w')
    (h : Go ops C Q fuel (listed.setIfInBounds i true) a w') : GOp ops C Q fuel listed i a w :=
  g_wp hi hw fun K hK => by
    unfold Oper.wp
    rw [hrun]
    have e : a.put o.dst undef = a := by rw [hd]; rfl
    show K (a.put o.dst undef) w'
    rw [e]
    exact hK _ _ hC h
end
theorem run_rem_is {ρ : Operand → Value} {o : Oper} {t t' : TypeId} {x y : Operand} (ho : o.op = .binOp .rem t x y t') {a b : Nat} (hx : ρ x = .int .i64 (a : Int)) (hy : ρ y = .int .i64 (b : Int)) (hb : 0 < b) (r : Int) (hr : ((a % b : Nat) : Int) = r) (w : World) : (execOp ρ o).run Tryz.prog w = .ok (.value (.int .i64 r)) w := by
  rw [← hr]; exact run_rem_nat ho hx hy hb w
theorem addr_add (g j : Nat) : (⟨g, 0, none⟩ : Addr).add j = ⟨g, j, none⟩ := by unfold Addr.add; split <;> simp_all
theorem addr_add2 (g i j : Nat) : (⟨g, i, none⟩ : Addr).add j = ⟨g, i + j, none⟩ := by unfold Addr.add; split <;> simp_all
theorem setCells_row {g : Nat} {t : TypeId} {fr : Nat × Nat} : ∀ (vs : List Value) (o : Nat) (w : World) (cur : Array Value), w.heap[g]? = some (.cells cur t fr) →
    ∃ cur' : Array Value, (w.setCells g o vs).heap[g]? = some (.cells cur' t fr) ∧ cur'.size = cur.size ∧ ∀ j, j < o → cur'[j]? = cur[j]? := by
  intro vs
  induction vs with
  | nil => intro o w cur h; exact ⟨cur, h, rfl, fun _ _ => rfl⟩
  | cons v r ih =>
    intro o w cur h
    obtain ⟨c', h1, h2, h3⟩ := ih (o + 1) (w.setCell ⟨g, o, none⟩ v) (cur.setIfInBounds o v) (by simp [World.setCell, Array.getElem?_modify, h])
    refine ⟨c', h1, by rw [h2]; simp, fun j hj => ?_⟩
    rw [h3 j (by omega), Array.getElem?_setIfInBounds, if_neg (by omega)]
theorem setCells_other (g : Nat) : ∀ (vs : List Value) (o : Nat) (w : World) (k : Nat), k ≠ g → (w.setCells g o vs).heap[k]? = w.heap[k]? := by
  intro vs
  induction vs with
  | nil => intro o w k _; rfl
  | cons v r ih =>
    intro o w k hk
    exact (ih (o + 1) (w.setCell ⟨g, o, none⟩ v) k hk).trans (Below.heap_setCell _ _ _ _ hk)
theorem setCells_size (g : Nat) : ∀ (vs : List Value) (o : Nat) (w : World), (w.setCells g o vs).heap.size = w.heap.size := by
  intro vs
  induction vs with
  | nil => intro o w; rfl
  | cons v r ih =>
    intro o w
    exact (ih (o + 1) (w.setCell ⟨g, o, none⟩ v)).trans (by simp)
theorem setCells_kept (w : World) (g o : Nat) (vs : List Value) : Kept (· = g) w (w.setCells g o vs) := by
  have h : ∀ (vs : List Value) (o : Nat) (w : World), (w.setCells g o vs).os = w.os ∧ (w.setCells g o vs).tape = w.tape ∧ (w.setCells g o vs).output = w.output := by
    intro vs
    induction vs with
    | nil => intro o w; exact ⟨rfl, rfl, rfl⟩
    | cons v r ih => intro o w; exact ih (o + 1) (w.setCell ⟨g, o, none⟩ v)
  exact ⟨(h vs o w).1, (h vs o w).2.1, (h vs o w).2.2, by rw [setCells_size]; exact Nat.le_refl _, fun k _ hk => setCells_other g vs o w k hk⟩
theorem own_far {w : World} {B B' : Nat} {e e' : TypeId} {s s' n n' : Nat} {v v' : Value} {xs xs' : List Value} (h : w.ownsRow B e s v n xs) (h' : w.ownsRow B' e' s' v' n' xs') (hne : e ≠ e') {k : Nat} (hk : v.ownBlock = some k) : v'.ownBlock ≠ some k := by
  intro hk'
  rcases h.2 with ⟨rfl, _⟩ | ⟨g, cap, cur, rfl, _, h2, _⟩
  · simp [Value.ownBlock] at hk
  · rcases h'.2 with ⟨rfl, _⟩ | ⟨g', cap', cur', rfl, _, h2', _⟩
    · simp [Value.ownBlock] at hk'
    · have e1 : g = k := by simpa [Value.ownBlock] using hk
      have e2 : g' = k := by simpa [Value.ownBlock] using hk'
      subst e1
      subst e2
      rw [h2] at h2'
      injection h2' with h2'
      injection h2' with _ ht _
      exact hne ht
theorem reads_news {w : World} {g : Nat} {t : TypeId} {size : Nat} {xs : List Value} (h : w.heap[g]? = some (.cells xs.toArray t (0, 0))) (hs : xs.length = size) : Reads w w.heap.size size (some ⟨g, 0, none⟩) 1 xs := by
  refine ⟨by omega, fun _ => ⟨_, rfl, row_lt h, fun j u hj => ?_⟩⟩
  rw [addr_add, cell_of_row w g j _ t (0, 0) h, ← hj]
  simp
theorem run_clear_op {ρ : Operand → Value} {o : Oper} {x : Operand} {t : TypeId} (ho : o.op = .call { callee := .builtin .clear, args := #[x], argTypes := #[t] }) {v : Value} (hx : ρ x = v) {w w' : World} (hrun : (Builtin.clear_ #[t] o.type #[v]).run Tryz.prog w = .ok (.tuple #[]) w') : (execOp ρ o).run Tryz.prog w = .ok (.value (.tuple #[])) w' := by
  unfold execOp
  simp only [ho, resolve, invoke, builtin, Sem.run_bind, Sem.run_pure, Result.andThen_ok, List.map_toArray, List.map_cons, List.map_nil, hx, hrun]
section
variable {ρ : Operand → Value} {o : Oper}
theorem run_load_bool {t : TypeId} {x : Operand} (ho : o.op = .load t x) (ht : Tryz.prog.underlying t = some .bool) {a : Addr} (hx : ρ x = .pointer (some a)) {v : Value} {w : World} (hc : w.cell? a = some v) :
    (execOp ρ o).run Tryz.prog w = .ok (.value v) w := by
  unfold execOp
  rw [ho]
  simp [hx, Instr.loadAt, Instr.sureAddr, loadVar, isAgg, Sem.run_bind, run_underlying ht, load, Sem.run, hc]
end

end Go.Proofs.YtnlolhlbpdmljaaGreatDoor
