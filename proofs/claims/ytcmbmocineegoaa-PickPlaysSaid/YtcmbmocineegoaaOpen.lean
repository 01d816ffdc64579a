/-
  What came in, opened: pairs by value, rows of pairs.
  Conditions: none.
-/
import Derived.Test.YtcmbmocineegoaaWalkG
import Derived.Test.YtcmbmocineegoaaRows
import Derived.ProofKit
import Derived.OpenShut
import Derived.ChangeOld
import Derived.Deep.Slices
import Derived.Deep.Fields
import Derived.ChangeSame
import Derived.Lib.SmallJoins
namespace Go.Proofs.Ytcmbmocineegoaa
open Go.ChangeShapes Go.WideShapes Go.ChangeAt Go.RowKit Go.Deep Go.Joins

theorem own : ownKnob Try.prog.godebug = none := by kernel_rfl
theorem laidOut : laidOutB Try.prog = true := by kernel_rfl

section
variable {H : Type} {enc : TypeId × Value → H} {P : Program} {w : World} {base : Nat} {spare : Nat → Bool} {held : Bool}
theorem open_slice_fields {t e : TypeId} {fs : Array Field} {fuel : Nat} {cs : List Value} {x : DataW H × List MemPlace} (ht : P.underlying t = some (.slice e)) (he : P.underlying e = some (.struct fs))
    (hone : oneCellFields P fs = true) (hC : P.cellsOf e = fs.size) (h : DataW.trod enc P w base spare held fuel t cs = some x) :
    (cs = [.slice none 0 0] ∧ x = (.nil, [])) ∨
    ∃ (a : Addr) (len cap m : Nat) (D : Nat → DataW H) (Pl : Nat → List MemPlace), cs = [.slice (some a) len cap] ∧ base ≤ a.block ∧ len ≤ cap ∧ cap ≤ maxLen ∧ m = (if spare a.block then cap else len) ∧
      x = (.slice ((List.range len).map D) ((List.range (m - len)).map fun j => D (len + j)), MemPlace.row a (m * fs.size) ++ (List.range m).flatMap Pl) ∧
      ∀ i, i < m → ∃ (ys : List (DataW H × List MemPlace)) (n : Nat), D i = .agg (ys.map (·.1)) ∧ Pl i = ys.flatMap (·.2) ∧ ys.length = fs.size ∧
        ∀ (j : Nat) (f : Field), fs[j]? = some f → ∃ (v : Value) (y : DataW H × List MemPlace), w.cell? (a.add (i * fs.size + j)) = some v ∧ ys[j]? = some y ∧ DataW.trod enc P w base spare held n f.type [v] = some y := by
  rcases open_slice ht h with h0 | ⟨a, len, cap, m, n, D, Pl, hcs, hb, hl, hm, hmm, hx, hi⟩
  · exact .inl h0
  · refine .inr ⟨a, len, cap, m, D, Pl, hcs, hb, hl, hm, hmm, by rw [hC] at hx; exact hx, fun i him => ?_⟩
    obtain ⟨cs', hc, ht'⟩ := hi i him
    rw [hC] at hc
    obtain ⟨ys, n', hn', hy, hlen, hyl, hf⟩ := DataW.trod_struct he ht'
    obtain ⟨_, hcl, hat⟩ := World.cells?_some hc
    simp only [Prod.mk.injEq] at hy
    refine ⟨ys, n', hy.1, hy.2, hyl, fun j f hj => ?_⟩
    obtain ⟨ho, hk⟩ := hone_of hone j f hj
    have hjl : j < fs.size := (Array.getElem?_eq_some_iff.1 hj).1
    have hcell := hat j hjl
    have hv : cs'[j]? = some (cs'[j]'(by omega)) := List.getElem?_eq_getElem (by omega)
    have h1 := hf j f hj
    rw [ho, hk] at h1
    have hone' : (cs'.drop j).take 1 = [cs'[j]'(by omega)] := by
      rw [List.drop_eq_getElem_cons (by omega)]
      rfl
    rw [hone'] at h1
    have hys : ys[j]? = some (ys[j]'(by omega)) := List.getElem?_eq_getElem (by omega)
    refine ⟨_, _, ?_, hys, h1.trans hys⟩
    rw [← Go.Deep.add_add, hcell, hv]
end

theorem list_of {Q : Nat → D → Prop} (n : Nat) : (∀ i, i < n → ∃ d, Q i d) → ∃ l : List D, l.length = n ∧ ∀ i, i < n → Q i (at_ l i) := by
  induction n with
  | zero => exact fun _ => ⟨[], rfl, fun i hi => by omega⟩
  | succ n ih =>
    intro h
    obtain ⟨l, hl, hq⟩ := ih (fun i hi => h i (by omega))
    obtain ⟨d, hd⟩ := h n (by omega)
    refine ⟨l ++ [d], by simp [hl], fun i hi => ?_⟩
    by_cases e : i < n
    · rw [at_append_lt (by omega)]; exact hq i e
    · have e2 : i = n := by omega
      subst e2
      have : at_ (l ++ [d]) i = d := by unfold at_; rw [List.getD_eq_getElem?_getD, List.getElem?_append_right (by omega)]; simp [hl]
      rw [this]; exact hd

section
variable {H : Type} {enc : TypeId × Value → H} {W : World}
theorem open_due {v : Value} {d : DataW H} {p : List MemPlace} (hv : Value.okWide Try.prog W .any 0 30 v) (h : DataW.Trod enc Try.prog W 0 (fun _ => true) true 30 v d p) : ∃ x : D, v = dv x := by
  obtain ⟨v0, v1, y0, y1, n, rfl, _, _, h0, h1⟩ := open_agg2 Try.underlying30 (by kernel_rfl) (by kernel_rfl) hv h
  obtain ⟨a, e0, _, _⟩ := DataW.trod_int Try.underlying3 h0
  obtain ⟨b, e1, _, _⟩ := DataW.trod_int Try.underlying3 h1
  cases e0
  cases e1
  exact ⟨(a, b), rfl⟩
theorem open_rows {t e : TypeId} {f0 f1 : Field} {v : Value} {d : DataW H} {p : List MemPlace} (ht : Try.prog.underlying t = some (.slice e)) (he : Try.prog.underlying e = some (.struct #[f0, f1])) (h0 : f0.type = 3) (h1 : f1.type = 3)
    (hone : oneCellFields Try.prog #[f0, f1] = true) (hC : Try.prog.cellsOf e = 2) (hv : Value.okWide Try.prog W .any 0 t v) (h : DataW.Trod enc Try.prog W 0 (fun _ => true) true t v d p) :
    ∃ (A : Option Addr) (c : Nat) (l : List D), v = .slice A l.length c ∧ l.length ≤ maxLen ∧ DReads W W.heap.size A l := by
  obtain ⟨a0, len, cap, rfl⟩ := okWide_slice ht hv
  obtain ⟨fuel, hf⟩ := h
  rcases open_slice_fields ht he hone hC hf with ⟨hcs, _⟩ | ⟨a, len', cap', m, D', Pl, hcs, _, hl, hm, hmm, _, hi⟩
  · cases hcs
    exact ⟨none, 0, [], rfl, by simp [maxLen], fun h => by simp at h⟩
  · cases hcs
    have hmc : len ≤ m := by rw [hmm]; simpa using hl
    obtain ⟨l, hll, hq⟩ := list_of (Q := fun i d => W.cell? (a.add (i * 2)) = some (.int .i64 d.1) ∧ W.cell? ((a.add (i * 2)).add 1) = some (.int .i64 d.2)) len (fun i hi' => by
      obtain ⟨ys, n, _, _, _, hj⟩ := hi i (by omega)
      obtain ⟨u0, y0, c0, _, t0⟩ := hj 0 f0 rfl
      obtain ⟨u1, y1, c1, _, t1⟩ := hj 1 f1 rfl
      rw [h0] at t0
      rw [h1] at t1
      obtain ⟨b0, e0, _, _⟩ := DataW.trod_int Try.underlying3 t0
      obtain ⟨b1, e1, _, _⟩ := DataW.trod_int Try.underlying3 t1
      cases e0
      cases e1
      refine ⟨(b0, b1), ?_, ?_⟩
      · simpa using c0
      · rw [add_add]; simpa using c1)
    refine ⟨some a, cap, l, by rw [hll], by omega, fun hl0 => ⟨a, rfl, ?_, fun j hj => hq j (by omega)⟩⟩
    have := World.block_lt_of_cell? W _ (hq 0 (by omega)).1
    rw [block_add] at this
    exact this
theorem open_dues {v : Value} {d : DataW H} {p : List MemPlace} (hv : Value.okWide Try.prog W .any 0 39 v) (h : DataW.Trod enc Try.prog W 0 (fun _ => true) true 39 v d p) :
    ∃ (A : Option Addr) (c : Nat) (l : List D), v = .slice A l.length c ∧ l.length ≤ maxLen ∧ DReads W W.heap.size A l :=
  open_rows Try.underlying39 Try.underlying30 rfl rfl (by kernel_rfl) (by kernel_rfl) hv h
theorem open_refs {v : Value} {d : DataW H} {p : List MemPlace} (hv : Value.okWide Try.prog W .any 0 22 v) (h : DataW.Trod enc Try.prog W 0 (fun _ => true) true 22 v d p) :
    ∃ (A : Option Addr) (c : Nat) (l : List D), v = .slice A l.length c ∧ l.length ≤ maxLen ∧ DReads W W.heap.size A l :=
  open_rows Try.underlying22 Try.underlying29 rfl rfl (by kernel_rfl) (by kernel_rfl) hv h
end

end Go.Proofs.Ytcmbmocineegoaa
