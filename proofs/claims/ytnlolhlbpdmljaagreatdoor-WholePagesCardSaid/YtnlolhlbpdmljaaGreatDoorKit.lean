/-
  Small laws of no program: two arrays of integers held against each other; a region that draws its order, whose operations keep a class of worlds, walked once.
  Conditions: none.
-/
import Derived.WalkKit
import Derived.WalkSpells
import Derived.WalkLawsBesides
import Derived.BigQuiet
import Derived.Deep.QuietTactic
import Derived.StillTailTactics
import Derived.Lib.Hide
import Derived.IntWalk
namespace Go.Proofs.YtnlolhlbpdmljaaGreatDoor
open Go.RowKit

section
variable {P : Program}

/-- A part of one integer. -/
theorem run_part_int {e : TypeId} {k : IntKind} (he : P.underlying e = some (.int k)) (xs : Array Value) (i : Nat) (v : Value) (h : xs[i]? = some v) (w : World) : (part e xs i).run P w = .ok v w := by
  simp [part, isAgg, Sem.run_bind, run_underlying he, h]

theorem run_size {e : TypeId} {n : Nat} (hs : (P.info? e).map (·.size) = some n) (w : World) : (sizeOf e).run P w = .ok n w := by
  cases hq : P.info? e with
  | none => simp [hq] at hs
  | some i =>
    have : i.size = n := by simpa [hq] using hs
    simp [sizeOf, typeInfo, hq, this]

def alikeFrom (f g : Nat → Int) : Nat → Nat → Bool
  | _, 0 => true
  | i, n + 1 => f i == g i && alikeFrom f g (i + 1) n

theorem alikeFrom_iff {f g : Nat → Int} (n : Nat) : ∀ i, alikeFrom f g i n = true ↔ ∀ j, i ≤ j → j < i + n → f j = g j := by
  induction n with
  | zero => intro i; simp [alikeFrom]; omega
  | succ n ih =>
    intro i
    simp only [alikeFrom, Bool.and_eq_true, beq_iff_eq, ih]
    constructor
    · rintro ⟨h1, h2⟩ j hj1 hj2
      by_cases e : j = i
      · subst e; exact h1
      · exact h2 j (by omega) (by omega)
    · intro h
      exact ⟨h i (by omega) (by omega), fun j h1 h2 => h j (by omega) (by omega)⟩

/-- Two arrays of integers held against each other. -/
theorem run_equal_ints (d : Nat) {t e : TypeId} {len : Nat} {k : IntKind} (ht : P.underlying t = some (.array len e)) (he : P.underlying e = some (.int k)) (hs : (P.info? e).map (·.size) = some 1)
    (xs ys : Array Value) (f g : Nat → Int) (hx : ∀ i, i < len → xs[i]? = some (.int k (f i))) (hy : ∀ i, i < len → ys[i]? = some (.int k (g i))) (w : World) :
    (Op.equalIn (d + 2) t (.agg xs) (.agg ys)).run P w = .ok (alikeFrom f g 0 len) w := by
  rw [Op.equalIn]
  simp only [Sem.run_bind, run_underlying ht, Result.andThen_ok, run_size hs, Nat.mul_one]
  rw [Std.Legacy.Range.forIn_eq_forIn_range']
  simp only [Std.Legacy.Range.size, Nat.sub_zero, Nat.add_sub_cancel, Nat.div_one]
  suffices key : ∀ (n i : Nat), i + n = len → ∀ (w : World), Sem.run P
              (forIn (List.range' i n) ((none : Option Bool), ()) fun i __s => do
                let __do_lift ← part e xs i
                let __do_lift_1 ← part e ys i
                let __do_lift ← Op.equalIn (d + 1) e __do_lift __do_lift_1
                if (!__do_lift) = true then pure (ForInStep.done (some false, ())) else pure (ForInStep.yield (none, ())))
              w = .ok (if alikeFrom f g i n then (none, ()) else (some false, ())) w by
    rw [key len 0 (by omega) w]
    cases alikeFrom f g 0 len <;> simp
  intro n
  induction n with
  | zero => intro i _ w; simp [alikeFrom]
  | succ n ih =>
    intro i hi w
    rw [List.range'_succ, List.forIn_cons]
    simp only [Sem.run_bind, run_part_int he xs i _ (hx i (by omega)), run_part_int he ys i _ (hy i (by omega)), Result.andThen_ok, run_equalIn_int w d e k k (f i) (g i) he]
    by_cases e : f i = g i
    · have e1 : (f i == g i) = true := by simpa using e
      simp only [e1, Bool.not_true, Bool.false_eq_true, if_false, Sem.run_pure, Result.andThen_ok]
      rw [ih (i + 1) (by omega) w]
      simp [alikeFrom, e1]
    · have e1 : (f i == g i) = false := by simpa using e
      simp only [e1, Bool.not_false, if_true, Sem.run_pure, Result.andThen_ok]
      simp [alikeFrom, e1]

/-- '==' on two arrays of integers. -/
theorem run_eql_ints {t e : TypeId} {len : Nat} {k : IntKind} (ht : P.underlying t = some (.array len e)) (he : P.underlying e = some (.int k)) (hs : (P.info? e).map (·.size) = some 1)
    (xs ys : Array Value) (f g : Nat → Int) (hx : ∀ i, i < len → xs[i]? = some (.int k (f i))) (hy : ∀ i, i < len → ys[i]? = some (.int k (g i))) (w : World) :
    (binOp .eql t (.agg xs) (.agg ys)).run P w = .ok (.bool (alikeFrom f g 0 len)) w := by
  rw [run_eql_struct, run_equal_ints 9998 ht he hs xs ys f g hx hy w]
  rfl

/-! ### Operations, as equations of one run. -/
section
variable {ρ : Operand → Value} {o : Oper}
theorem run_pick {c a b : Operand} (ho : o.op = .pick c a b) {t : Bool} (hc : ρ c = .bool t) (w : World) : (execOp ρ o).run P w = .ok (.value (if t then ρ a else ρ b)) w := by
  unfold execOp
  rw [ho]
  simp [hc, asBool]
theorem run_eql_alike {t e t' : TypeId} {len : Nat} {k : IntKind} {x y : Operand} (ho : o.op = .binOp .eql t x y t') (ht : P.underlying t = some (.array len e)) (he : P.underlying e = some (.int k)) (hs : (P.info? e).map (·.size) = some 1)
    (hm : P.eqGuardType P.depth t = false) {xs ys : Array Value} (hx : ρ x = .agg xs) (hy : ρ y = .agg ys) (f g : Nat → Int) (hxs : ∀ i, i < len → xs[i]? = some (.int k (f i))) (hys : ∀ i, i < len → ys[i]? = some (.int k (g i))) (w : World) :
    (execOp ρ o).run P w = .ok (.value (.bool (alikeFrom f g 0 len))) w := by
  unfold execOp
  rw [ho]
  simp only [hx, hy, Sem.run_bind, run_eqGuard_agg w .eql t x y xs ys hm, Result.andThen_ok, run_eql_ints ht he hs xs ys f g hxs hys w, Sem.run_pure]
theorem run_eql_int {t t' : TypeId} {k : IntKind} {x y : Operand} (ho : o.op = .binOp .eql t x y t') {a b : Int} (hx : ρ x = .int k a) (hy : ρ y = .int k b) (w : World) :
    (execOp ρ o).run P w = .ok (.value (.bool (a == b))) w := by
  unfold execOp
  rw [ho]
  simp only [hx, hy]
  simp [eqGuard, binOp, Op.intCmp]
theorem run_eql_int_is {t t' : TypeId} {k : IntKind} {x y : Operand} (ho : o.op = .binOp .eql t x y t') {a b : Int} (hx : ρ x = .int k a) (hy : ρ y = .int k b) (r : Bool) (hr : (a == b) = r) (w : World) :
    (execOp ρ o).run P w = .ok (.value (.bool r)) w := by rw [run_eql_int ho hx hy w, hr]
theorem run_eql_bool_is {t t' : TypeId} {x y : Operand} (ho : o.op = .binOp .eql t x y t') (ht : P.underlying t = some .bool) {a b : Bool} (hx : ρ x = .bool a) (hy : ρ y = .bool b) (r : Bool) (hr : (a == b) = r) (w : World) :
    (execOp ρ o).run P w = .ok (.value (.bool r)) w := by
  unfold execOp
  rw [ho]
  simp only [hx, hy]
  have h : (binOp .eql t (.bool a) (.bool b)).run P w = .ok (.bool (a == b)) w := by
    show (do pure (.bool (← Op.equalIn (9999 + 1) t (.bool a) (.bool b))) : Sem Value).run P w = _
    simp only [Sem.run_bind, run_equalIn_bool' w 9999 t a b ht, Result.andThen_ok, Sem.run_pure]
  simp [eqGuard, h, hr]
theorem run_neq_bool_is {t t' : TypeId} {x y : Operand} (ho : o.op = .binOp .neq t x y t') (ht : P.underlying t = some .bool) {a b : Bool} (hx : ρ x = .bool a) (hy : ρ y = .bool b) (r : Bool) (hr : (!(a == b)) = r) (w : World) :
    (execOp ρ o).run P w = .ok (.value (.bool r)) w := by
  unfold execOp
  rw [ho]
  simp only [hx, hy]
  have h : (binOp .neq t (.bool a) (.bool b)).run P w = .ok (.bool (!(a == b))) w := by
    show (do pure (.bool (!(← Op.equalIn (9999 + 1) t (.bool a) (.bool b)))) : Sem Value).run P w = _
    simp only [Sem.run_bind, run_equalIn_bool' w 9999 t a b ht, Result.andThen_ok, Sem.run_pure]
  simp [eqGuard, h, hr]
theorem run_sub_int {t t' : TypeId} {x y : Operand} (ho : o.op = .binOp .sub t x y t') {a b : Int} (hx : ρ x = .int .i64 a) (hy : ρ y = .int .i64 b) (hb : -9223372036854775808 ≤ a - b ∧ a - b ≤ 9223372036854775807) (w : World) :
    (execOp ρ o).run P w = .ok (.value (.int .i64 (a - b))) w := by
  have h := IntWalk.i64_in _ hb
  unfold execOp
  rw [ho]
  simp only [hx, hy]
  simp [eqGuard, binOp, Op.intArith, h]
theorem run_add_int {t t' : TypeId} {x y : Operand} (ho : o.op = .binOp .add t x y t') {a b : Int} (hx : ρ x = .int .i64 a) (hy : ρ y = .int .i64 b) (hb : -9223372036854775808 ≤ a + b ∧ a + b ≤ 9223372036854775807) (w : World) :
    (execOp ρ o).run P w = .ok (.value (.int .i64 (a + b))) w := by
  have h := IntWalk.i64_in _ hb
  unfold execOp
  rw [ho]
  simp only [hx, hy]
  simp [eqGuard, binOp, Op.intArith, h]
/-- A binary operation on two integers of one kind, by what it comes to. -/
theorem run_ints_is {op : BinOp} {t t' : TypeId} {k : IntKind} {x y : Operand} (ho : o.op = .binOp op t x y t') {a b : Int} (hx : ρ x = .int k a) (hy : ρ y = .int k b) {r : Value} {w : World} (hr : (binOp op t (.int k a) (.int k b)).run P w = .ok r w) :
    (execOp ρ o).run P w = .ok (.value r) w := by
  unfold execOp
  rw [ho]
  simp only [hx, hy]
  cases op <;> simp [eqGuard, hr]
theorem run_quo_nat {t t' : TypeId} {x y : Operand} (ho : o.op = .binOp .quo t x y t') {a b : Nat} (hx : ρ x = .int .i64 (a : Int)) (hy : ρ y = .int .i64 (b : Int)) (hb : 0 < b) (ha : (a : Int) ≤ 9223372036854775807) (w : World) :
    (execOp ρ o).run P w = .ok (.value (.int .i64 ((a / b : Nat) : Int))) w := by
  refine run_ints_is ho hx hy ?_
  rw [binOp_quo]
  unfold Op.intDiv
  rw [if_neg (by omega)]
  simp only [Sem.run_pure]
  rw [IntWalk.i64_quo _ _ (by omega)]
  rfl
theorem run_rem_nat {t t' : TypeId} {x y : Operand} (ho : o.op = .binOp .rem t x y t') {a b : Nat} (hx : ρ x = .int .i64 (a : Int)) (hy : ρ y = .int .i64 (b : Int)) (hb : 0 < b) (w : World) :
    (execOp ρ o).run P w = .ok (.value (.int .i64 ((a % b : Nat) : Int))) w := by
  refine run_ints_is ho hx hy ?_
  rw [binOp_rem]
  unfold Op.intDiv
  rw [if_neg (by omega)]
  simp only [Sem.run_pure]
  rw [IntWalk.rem_in _ _ (by omega)]
  rfl
/-- A bit of a byte. -/
theorem run_bit8 {t t' : TypeId} {x y : Operand} (ho : o.op = .binOp .shl t x y t') {k : Nat} (hx : ρ x = .int .u8 1) (hy : ρ y = .int .i64 (k : Int)) (hk : k < 8) (w : World) :
    (execOp ρ o).run P w = .ok (.value (.int .u8 ((2 ^ k : Nat) : Int))) w := by
  have h : (binOp .shl t (.int .u8 1) (.int .i64 (k : Int))).run P w = .ok (.int .u8 ((2 ^ k : Nat) : Int)) w := by
    show (Op.shift .shl .u8 1 .i64 (k : Int)).run P w = _
    rw [shift_shl .u8 .i64 1 (k : Int) (by omega) (by simp [IntKind.bits]; omega), Sem.run_pure]
    have h1 : (1 : Int) * 2 ^ (k : Int).toNat = ((2 ^ k : Nat) : Int) := by simp
    have h2 : 2 ^ k ≤ 128 := Nat.pow_le_pow_right (n := 2) (by omega) (by omega : k ≤ 7)
    have h3 : ∀ m : Nat, m ≤ 128 → IntKind.u8.wrap (m : Int) = m := fun m hm => IntWalk.u8_in _ (by omega)
    rw [h1, h3 _ h2]
  unfold execOp
  rw [ho]
  simp only [hx, hy]
  simp [eqGuard, h]
/-- The address of a slice's element. -/
theorem run_at_nat {t e : TypeId} {x y : Operand} (ho : o.op = .indexAddr t x y) (ht : P.underlying t = some (.slice e)) (hs : (P.info? e).map (·.size) = some 1) {g n c i : Nat} (hx : ρ x = .slice (some ⟨g, 0, none⟩) n c) (hy : ρ y = .int .i64 (i : Int)) (hi : i < n) (w : World) :
    (execOp ρ o).run P w = .ok (.value (.pointer (some ⟨g, i, none⟩))) w := by
  unfold execOp
  rw [ho]
  have hadd : (⟨g, 0, none⟩ : Addr).add i = ⟨g, i, none⟩ := by unfold Addr.add; split <;> simp_all
  have h : (Instr.indexAt t (.slice (some ⟨g, 0, none⟩) n c) (.int .i64 (i : Int))).run P w = .ok (.pointer (some ⟨g, i, none⟩)) w := by
    simp [Instr.indexAt, asIntOf, Sem.run_bind, run_underlying ht, run_size hs, hi, hadd]
  simp only [hx, hy, Sem.run_bind, h, Result.andThen_ok, Sem.run_pure]
/-- A cell of one integer. -/
theorem run_load_int {t : TypeId} {k : IntKind} {x : Operand} (ho : o.op = .load t x) (ht : P.underlying t = some (.int k)) {a : Addr} (hx : ρ x = .pointer (some a)) {v : Value} {w : World} (hc : w.cell? a = some v) :
    (execOp ρ o).run P w = .ok (.value v) w := by
  unfold execOp
  rw [ho]
  simp [hx, Instr.loadAt, Instr.sureAddr, loadVar, isAgg, Sem.run_bind, run_underlying ht, load, Sem.run, hc]
theorem run_not {t : TypeId} {x : Operand} (ho : o.op = .unOp .not t x) {b : Bool} (hx : ρ x = .bool b) (w : World) : (execOp ρ o).run P w = .ok (.value (.bool (!b))) w := by
  unfold execOp
  rw [ho]
  simp only [hx]
  simp [Op.unary]
theorem run_load_agg {ty : TypeId} {x : Operand} (ho : o.op = .load ty x) {g : Nat} (hx : ρ x = .pointer (some ⟨g, 0, none⟩)) {t : TypeId} {cs : Array Value} {fr : Nat × Nat} {d : TypeDesc} {w : World} (hg : w.heap[g]? = some (.cells cs t fr))
    (hu : P.underlying ty = some d) (hd : (match d with | .struct _ | .array _ _ => true | _ => false) = true) (hi : (P.info? ty).map (·.size) = some cs.size) : (execOp ρ o).run P w = .ok (.value (.agg cs)) w := by
  unfold execOp
  simp only [ho, hx, Instr.loadAt, Instr.sureAddr, Sem.run_bind, Sem.run_pure, Result.andThen_ok, run_loadVar_row w g t ty cs fr d hg hu hd hi]
theorem run_call {f : FuncId} {args : Array Operand} {ts : Array TypeId} (ho : o.op = .call { callee := .value (.func f), args := args, argTypes := ts }) (hf : ρ (.func f) = .func (.func f) #[] #[])
    (hcf : ∀ args w, (callFunc f args).run P w = .ok (.enter f args) w) (w : World) : (execOp ρ o).run P w = .ok (.enter f (args.map ρ)) w := by
  unfold execOp
  rw [ho]
  simp [go_sem, hf, hcf]
end

section
variable {a : Act} {o : Oper}
theorem run_call0 {f : FuncId} {ts : Array TypeId} (ho : o.op = .call { callee := .value (.func f), args := #[], argTypes := ts })
    (hcf : ∀ args w, (callFunc f args).run P w = .ok (.enter f args) w) (w : World) : (execOp a.eval o).run P w = .ok (.enter f #[]) w := by
  rw [run_call ho rfl hcf]; simp
theorem run_call1 {f : FuncId} {x : Operand} {ts : Array TypeId} (ho : o.op = .call { callee := .value (.func f), args := #[x], argTypes := ts })
    (hcf : ∀ args w, (callFunc f args).run P w = .ok (.enter f args) w) {u : Value} (hx : a.eval x = u) (w : World) : (execOp a.eval o).run P w = .ok (.enter f #[u]) w := by
  rw [run_call ho rfl hcf]; simp [hx]
theorem run_call2 {f : FuncId} {x y : Operand} {ts : Array TypeId} (ho : o.op = .call { callee := .value (.func f), args := #[x, y], argTypes := ts })
    (hcf : ∀ args w, (callFunc f args).run P w = .ok (.enter f args) w) {u v : Value} (hx : a.eval x = u) (hy : a.eval y = v) (w : World) : (execOp a.eval o).run P w = .ok (.enter f #[u, v]) w := by
  rw [run_call ho rfl hcf]; simp [hx, hy]
theorem run_call3 {f : FuncId} {x y z : Operand} {ts : Array TypeId} (ho : o.op = .call { callee := .value (.func f), args := #[x, y, z], argTypes := ts })
    (hcf : ∀ args w, (callFunc f args).run P w = .ok (.enter f args) w) {u v t : Value} (hx : a.eval x = u) (hy : a.eval y = v) (hz : a.eval z = t) (w : World) : (execOp a.eval o).run P w = .ok (.enter f #[u, v, t]) w := by
  rw [run_call ho rfl hcf]; simp [hx, hy, hz]
end

section
variable {ops : Array Oper} {Q : Exit → Act → World → Prop} {a : Act} {o : Oper} {rest : List Oper} {w : World}
/-- One operation of a list that yields a value. -/
theorem l_val (hw : Region.wanted o (yielded ops a.tmps) = true) {u : Value} (hr : (execOp a.eval o).run P w = .ok (.value u) w) (h : wpList P ops Q rest (a.put o.dst u) w) : wpList P ops Q (o :: rest) a w :=
  wpList_step fun K hK => by
    rw [if_pos hw]
    unfold Oper.wp
    rw [hr]
    exact hK _ _ h
end

section
variable {ops : Array Oper} {Q : Exit → Act → World → Prop} {a : Act} {o : Oper} {rest : List Oper} {w : World}
/-- One operation of a list that yields a value and another world. -/
theorem l_run (hw : Region.wanted o (yielded ops a.tmps) = true) {u : Value} {w' : World} (hr : (execOp a.eval o).run P w = .ok (.value u) w') (h : wpList P ops Q rest (a.put o.dst u) w') : wpList P ops Q (o :: rest) a w :=
  wpList_step fun K hK => by
    rw [if_pos hw]
    unfold Oper.wp
    rw [hr]
    exact hK _ _ h
theorem s_val (hw : Region.wanted o (yielded ops a.tmps) = true) {Q : Act → Prop} {u : Value} (hr : (execOp a.eval o).run P w = .ok (.value u) w) (h : wpStill P ops w Q rest (a.put o.dst u)) : wpStill P ops w Q (o :: rest) a :=
  wpStill_step fun K hK => by
    rw [if_pos hw]
    unfold Oper.still
    rw [hr]
    exact ⟨rfl, hK _ h⟩
theorem region_tail {id : Nat} {l : List Oper} (n : Nat) (hm : P.follows .mixedOrders = true) (hB : Region.lexTailB .any l.toArray n = true)
    (W : World) (hW : w.drew = W) (h : wpStill P l.toArray W (fun a' => wpList P l.toArray Q (l.drop n) a' W) (l.take n) a) : (Code.region id l.toArray true).wp P Q a w := by
  subst hW
  exact wp_region_still_tail n hm hB h
end

/-! ### A region that draws its order: each operation keeps a class C of worlds and yields one value in every world of it; a call may make memory. -/
section
variable {ops : Array Oper} {C : World → Prop} {Q : Act → Prop} {a : Act} {o : Oper} {rest : List Oper}

theorem q_skip (hw : Region.wanted o (yielded ops a.tmps) = false) (h : wpQuiet P ops C Q rest (a.put o.dst undef)) : wpQuiet P ops C Q (o :: rest) a :=
  wpQuiet_step fun K hK => by rw [if_neg (by rw [hw]; exact Bool.false_ne_true)]; exact hK _ h

theorem q_val (hw : Region.wanted o (yielded ops a.tmps) = true) {u : Value} (hr : ∀ w, C w → (execOp a.eval o).run P w = .ok (.value u) w) (h : wpQuiet P ops C Q rest (a.put o.dst u)) : wpQuiet P ops C Q (o :: rest) a :=
  wpQuiet_step fun K hK => by
    rw [if_pos hw]
    exact ⟨u, fun w hC => by unfold Oper.quietAt; rw [hr w hC]; exact ⟨rfl, rfl⟩, hK _ h⟩

theorem q_call (hw : Region.wanted o (yielded ops a.tmps) = true) {f : FuncId} {args : Array Value} {v : Value} (hr : ∀ w, C w → (execOp a.eval o).run P w = .ok (.enter f args) w)
    (hc : ∀ w, C w → Calls P f args w fun e w'' => e = .returned v ∧ C w'') (h : wpQuiet P ops C Q rest (a.put o.dst v)) : wpQuiet P ops C Q (o :: rest) a :=
  wpQuiet_step fun K hK => by
    rw [if_pos hw]
    exact ⟨v, fun w hC => by unfold Oper.quietAt; rw [hr w hC]; exact ⟨rfl, hc w hC⟩, hK _ h⟩

theorem q_move (hw : Region.wanted o (yielded ops a.tmps) = true) (x : Operand) (ho : o.op = .move x) (h : wpQuiet P ops C Q rest (a.put o.dst (a.eval x))) : wpQuiet P ops C Q (o :: rest) a :=
  q_val hw (fun w _ => BigFrame.run_move x ho w) h
theorem q_assign (hw : Region.wanted o (yielded ops a.tmps) = true) (x : Operand) (ho : o.op = .assign x) (h : wpQuiet P ops C Q rest (a.put o.dst (a.eval x))) : wpQuiet P ops C Q (o :: rest) a :=
  q_val hw (fun w _ => BigFrame.run_assign x ho w) h

theorem q_move_is (hw : Region.wanted o (yielded ops a.tmps) = true) (x : Operand) (v : Value) (ho : o.op = .move x) (hv : a.eval x = v) (h : wpQuiet P ops C Q rest (a.put o.dst v)) : wpQuiet P ops C Q (o :: rest) a :=
  q_move hw x ho (by rw [hv]; exact h)
theorem q_assign_is (hw : Region.wanted o (yielded ops a.tmps) = true) (x : Operand) (v : Value) (ho : o.op = .assign x) (hv : a.eval x = v) (h : wpQuiet P ops C Q rest (a.put o.dst v)) : wpQuiet P ops C Q (o :: rest) a :=
  q_assign hw x ho (by rw [hv]; exact h)

/-- A region that draws its order, at a class of worlds that bears the draw. -/
theorem region_class {id : Nat} {Q : Exit → Act → World → Prop} {a : Act} {w : World} {l : List Oper} (C : World → Prop) (hm : P.follows .mixedOrders = true) (hB : Region.lexB .any l.toArray = true) (hC : C w.drew)
    (h : wpQuiet P l.toArray C (fun a' => ∀ w', C w' → Q .normal a' w') l a) : (Code.region id l.toArray true).wp P Q a w :=
  wp_region_quiet (C := C) hm hB hC (by simpa using h)
end

end
end Go.Proofs.YtnlolhlbpdmljaaGreatDoor
