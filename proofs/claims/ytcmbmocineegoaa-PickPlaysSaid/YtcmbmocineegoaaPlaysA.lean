/-
  HeapPlays: the state of the heap beside the document's list; what a push and a pop do to both; a list of truths that came in.
  Conditions: none.
-/
import Derived.Test.YtcmbmocineegoaaHeld
import Derived.Test.YtcmbmocineegoaaLeast
namespace Go.Proofs.Ytcmbmocineegoaa
open Go.ChangeShapes Go.WideShapes Go.ChangeAt Go.RowKit

/-- The heap at the block h holds the items of m. -/
def PH (w : World) (h : Nat) (m : List D) (wr : World) : Prop := ∃ (v : Value) (lh : List D), HObj wr h v ∧ wr.ownsRow w.heap.size 30 2 v lh.length (dcells lh) ∧ HAll lh ∧ lh.Perm m
/-- The document's list. -/
def RM (w : World) (mv : Value) (m : List D) (wr : World) : Prop := wr.ownsRow w.heap.size 29 2 mv m.length (dcells m)
theorem PH.perm {w wr : World} {h : Nat} {m n : List D} (H : PH w h m wr) (hp : m.Perm n) : PH w h n wr := by
  obtain ⟨v, lh, h1, h2, h3, h4⟩ := H
  exact ⟨v, lh, h1, h2, h3, h4.trans hp⟩
theorem PH.below {w wr w' : World} {h : Nat} {m : List D} (H : PH w h m wr) (hb : Below wr.heap.size wr w') : PH w h m w' := by
  obtain ⟨v, lh, h1, h2, h3, h4⟩ := H
  exact ⟨v, lh, (hb.block h (hb_lt h1)).trans h1, own_row h2 (fun k hk => hb.block k (own_lt h2 hk).1), h3, h4⟩
theorem RM.below {w wr w' : World} {mv : Value} {m : List D} (H : RM w mv m wr) (hb : Below wr.heap.size wr w') : RM w mv m w' :=
  own_row H (fun k hk => hb.block k (own_lt H hk).1)
theorem RM.far {w wr : World} {mv : Value} {m : List D} (H : RM w mv m wr) {h : Nat} {v u : Value} {lh : List D} {n : Nat} (hO : HObj wr h u) (hown : wr.ownsRow w.heap.size 30 2 v n (dcells lh)) {k : Nat} (hk : mv.ownBlock = some k) : k ≠ h ∧ v.ownBlock ≠ some k := by
  have hmt : ∃ cur, wr.heap[k]? = some (.cells cur 29 (0, 0)) := by
    rcases H.2 with ⟨rfl, _⟩ | ⟨g, cap, cur, rfl, _, hh, _⟩
    · simp [Value.ownBlock] at hk
    · have e : g = k := by simpa [Value.ownBlock] using hk
      subst e
      exact ⟨cur, hh⟩
  obtain ⟨cur, hh⟩ := hmt
  constructor
  · rintro rfl
    unfold HObj at hO
    rw [hO] at hh
    injection hh with hh
    injection hh with _ ht _
    exact absurd ht (by decide)
  · intro he
    rcases hown.2 with ⟨rfl, _⟩ | ⟨g, cap, cur2, rfl, _, h2, _⟩
    · simp [Value.ownBlock] at he
    · have e : g = k := by simpa [Value.ownBlock] using he
      subst e
      rw [h2] at hh
      injection hh with hh
      injection hh with _ ht _
      exact absurd ht (by decide)
theorem push_ph (w wr : World) (h : Nat) (mv : Value) (m : List D) (x : D) (H : PH w h m wr) (R : RM w mv m wr) (hb : Below w.heap.size w wr) (hh : w.heap.size ≤ h) (hm : m.length ≤ 1000) :
    Calls Try.prog 15 #[.pointer (some ⟨h, 0, none⟩), dv x] wr fun e w' => e = .returned (.tuple #[]) ∧ PH w h (m ++ [x]) w' ∧ RM w mv m w' ∧ Below w.heap.size w w' ∧ wr.heap.size ≤ w'.heap.size := by
  obtain ⟨v, lh, h1, h2, h3, h4⟩ := H
  refine (push_any wr h w.heap.size v lh x h1 h2 hb.size h3 (by have := h4.length_eq; omega)).mono ?_
  rintro e w' ⟨g, cap, l', rfl, hO, hR, hl, hp, hA, hg, hx, hK⟩
  refine ⟨rfl, ⟨_, l', hO, own_of_row hR hg, hA, (hp.trans (h4.cons x)).trans (List.perm_append_comm (l₁ := [x]) (l₂ := m))⟩, ?_, ?_, hK.size⟩
  · refine own_row R (fun k hk => hK.block k (own_lt R hk).1 (fun hs => ?_))
    obtain ⟨a, b⟩ := R.far h1 h2 hk
    rcases hs with e | e
    · exact a e
    · exact b e
  · refine hb.trans (kept_below hK hb.size (fun k hk => ?_))
    rcases hk with e | e
    · omega
    · exact (own_lt h2 e).2
theorem pop_ph (w wr : World) (h : Nat) (mv : Value) (m : List D) (H : PH w h m wr) (R : RM w mv m wr) (hb : Below w.heap.size w wr) (hh : w.heap.size ≤ h) (hm : m.length ≤ 1000) (h0 : 0 < m.length) :
    Calls Try.prog 16 #[.pointer (some ⟨h, 0, none⟩)] wr fun e w' => ∃ (x : D) (m' : List D), e = .returned (.tuple #[dv x, .bool true]) ∧ PH w h m' w' ∧ m.Perm (x :: m') ∧ (∀ y ∈ m, less y x = false) ∧ RM w mv m w' ∧ Below w.heap.size w w' := by
  obtain ⟨v, lh, h1, h2, h3, h4⟩ := H
  have hl : 0 < lh.length := by rw [h4.length_eq]; exact h0
  refine (pop_own wr h w.heap.size v lh h1 h2 h3 hl (by have := h4.length_eq; omega)).mono ?_
  rintro e w' ⟨v', l', rfl, hO, hR, hA, hvb, hp, hK⟩
  refine ⟨at_ lh 0, l', rfl, ⟨v', l', hO, hR, hA, List.Perm.refl _⟩, h4.symm.trans hp, fun y hy => ?_, ?_, ?_⟩
  · obtain ⟨j, hj, e⟩ := mem_at (h4.mem_iff.2 hy)
    rw [← e]; exact hall_min h3 j hj
  · refine own_row R (fun k hk => hK.block k (own_lt R hk).1 (fun hs => ?_))
    obtain ⟨a, b⟩ := R.far h1 h2 hk
    rcases hs with e | e
    · exact a e
    · exact b e
  · refine hb.trans (kept_below hK hb.size (fun k hk => ?_))
    rcases hk with e | e
    · omega
    · exact (own_lt h2 e).2
theorem len_ph (w wr : World) (h : Nat) (m : List D) (H : PH w h m wr) : Calls Try.prog 19 #[.pointer (some ⟨h, 0, none⟩)] wr fun e w' => e = .returned (.int .i64 (m.length : Int)) ∧ w' = wr := by
  obtain ⟨v, lh, h1, h2, h3, h4⟩ := H
  obtain ⟨a, c, rfl⟩ := own_slice h2
  rw [← h4.length_eq]
  exact len_any wr h a _ c h1
theorem pop_ph0 (w wr : World) (h : Nat) (H : PH w h [] wr) : Calls Try.prog 16 #[.pointer (some ⟨h, 0, none⟩)] wr fun e w' => e = .returned (.tuple #[dv (0, 0), .bool false]) ∧ Below wr.heap.size wr w' := by
  obtain ⟨v, lh, h1, h2, h3, h4⟩ := H
  have e : lh = [] := List.perm_nil.1 h4
  subst e
  obtain ⟨a, c, rfl⟩ := own_slice h2
  exact pop_none wr _ a c (.inr ⟨h, rfl, h1⟩)
theorem push_nil (w : World) (d : D) : Calls Try.prog 15 #[.pointer none, dv d] w fun e w' => e = .returned (.tuple #[]) ∧ Below w.heap.size w w' := by
  unfold dv
  go_enter Try.func15, Try.ntmps15
  go_wp2
  refine bodyPost_ret (results_none rfl _ _ _) rfl ?_
  exact ⟨rfl, (Below.refl _ _).alloc (Nat.le_refl _) _⟩
/-- What the heap gives is what the document's least place holds. -/
theorem least_is {m m' : List D} {x : D} {k : Int} (hp : m.Perm (x :: m')) (hx : ∀ y ∈ m, less y x = false) (hk : LeastTo m m.length k) : ∃ b : Nat, b < m.length ∧ k = (b : Int) ∧ at_ m b = x ∧ m'.Perm (m.eraseIdx b) := by
  have h0 : 0 < m.length := by rw [hp.length_eq]; simp
  rcases hk with ⟨h, _⟩ | ⟨b, hb, rfl, hall⟩
  · omega
  · have hxm : x ∈ m := hp.mem_iff.2 (by simp)
    obtain ⟨j, hj, ej⟩ := mem_at hxm
    have e1 : less x (at_ m b) = false := by rw [← ej]; exact hall j hj
    have e2 := hx _ (at_mem hb)
    have e : at_ m b = x := less_total e2 e1
    refine ⟨b, hb, rfl, e, ?_⟩
    have h1 : m.Perm (at_ m b :: m.eraseIdx b) := by
      have h2 : m = m.take b ++ at_ m b :: m.drop (b + 1) := by
        have h3 := at_some hb
        rw [List.getElem?_eq_getElem hb] at h3
        rw [← Option.some.inj h3, ← List.drop_eq_getElem_cons hb, List.take_append_drop]
      rw [List.eraseIdx_eq_take_drop_succ]
      exact (List.Perm.of_eq h2).trans List.perm_middle
    rw [e] at h1
    exact (List.perm_cons x).1 (hp.symm.trans h1)

/-- A list of truths that came in. -/
def BReads (w : World) (B : Nat) (A : Option Addr) (l : List Bool) : Prop := 0 < l.length → ∃ ad, A = some ad ∧ ad.block < B ∧ ∀ j, j < l.length → w.cell? (ad.add j) = some (.bool (l.getD j false))
theorem BReads.below {w w' : World} {B : Nat} {A : Option Addr} {l : List Bool} (h : BReads w B A l) (hb : Below B w w') : BReads w' B A l := fun h0 => by
  obtain ⟨ad, e, hlt, hc⟩ := h h0
  exact ⟨ad, e, hlt, fun j hj => (hb.cell (by rw [block_add]; exact hlt)).trans (hc j hj)⟩
theorem size4 : (Try.prog.info? 4).map (·.size) = some 1 := by kernel_rfl
theorem own_reads_is {e : TypeId} {w : World} {B n : Nat} {A : Option Addr} {c : Nat} {l : List D} (h : w.ownsRow B e 2 (.slice A n c) n (dcells l)) (hn : n = l.length) : n ≤ c ∧ DReads w w.heap.size A l := by
  obtain ⟨A', c', e, h1, h2⟩ := own_reads h hn
  cases e
  exact ⟨h1, h2⟩
section
variable {ρ : Operand → Value} {o : Oper}
theorem run_load_bool {t : TypeId} {x : Operand} (ho : o.op = .load t x) (ht : Try.prog.underlying t = some .bool) {a : Addr} (hx : ρ x = .pointer (some a)) {v : Value} {w : World} (hc : w.cell? a = some v) :
    (execOp ρ o).run Try.prog w = .ok (.value v) w := by
  unfold execOp
  rw [ho]
  simp [hx, Instr.loadAt, Instr.sureAddr, loadVar, isAgg, Sem.run_bind, run_underlying ht, load, Sem.run, hc]
theorem run_neq_i {t t' : TypeId} {x y : Operand} (ho : o.op = .binOp .neq t x y t') {a b : Int} (hx : ρ x = .int .i64 a) (hy : ρ y = .int .i64 b) (r : Bool) (hr : decide (a ≠ b) = r) (w : World) : (execOp ρ o).run Try.prog w = .ok (.value (.bool r)) w := by
  unfold execOp
  rw [ho]
  simp only [hx, hy]
  rw [← hr]
  by_cases e : a = b
  · subst e; simp [eqGuard, binOp, Op.intCmp]
  · simp [eqGuard, binOp, Op.intCmp, e]
end
section
variable {H : Type} {enc : TypeId × Value → H} {W : World}
theorem open_bs {v : Value} {d : DataW H} {p : List MemPlace} (hv : Value.okWide Try.prog W .any 0 23 v) (h : DataW.Trod enc Try.prog W 0 (fun _ => true) true 23 v d p) :
    ∃ (A : Option Addr) (c : Nat) (l : List Bool), v = .slice A l.length c ∧ l.length ≤ maxLen ∧ BReads W W.heap.size A l := by
  obtain ⟨a0, len, cap, rfl⟩ := okWide_slice Try.underlying23 hv
  obtain ⟨fuel, hf⟩ := h
  rcases Go.Deep.open_slice1 Try.underlying23 (by kernel_rfl) hf with ⟨hcs, _⟩ | ⟨a, len', cap', m, n, V, D', Pl, hcs, _, hl, hm, hmm, _, hi⟩
  · cases hcs
    exact ⟨none, 0, [], rfl, by simp [maxLen], fun h => by simp at h⟩
  · cases hcs
    have hmc : len ≤ m := by rw [hmm]; simpa using hl
    have hq : ∀ i, i < len → ∃ b, V i = .bool b := fun i hi' => by
      obtain ⟨b, e, _⟩ := DataW.trod_bool Try.underlying4 (hi i (by omega)).2
      injection e with e
      exact ⟨b, e⟩
    refine ⟨some a, cap, (List.range len).map (fun i => match V i with | .bool b => b | _ => false), by simp, by simp; omega, fun hl0 => ⟨a, rfl, ?_, fun j hj => ?_⟩⟩
    · have h0 : 0 < len := by simpa using hl0
      have := World.block_lt_of_cell? W _ (hi 0 (by omega)).1
      rw [block_add] at this
      exact this
    · have hj' : j < len := by simpa using hj
      obtain ⟨b, hb⟩ := hq j hj'
      rw [(hi j (by omega)).1, hb, List.getD_eq_getElem?_getD, List.getElem?_map, List.getElem?_range hj']
      simp [hb]
end
end Go.Proofs.Ytcmbmocineegoaa
