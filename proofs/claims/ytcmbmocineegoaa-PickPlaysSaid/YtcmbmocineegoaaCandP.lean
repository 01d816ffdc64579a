/-
  Arguments of the pick laws opened; the least pair of a list of candidates; more charge. No program in sight but the arguments' types.
  Conditions: none.
-/
import Derived.Test.YtcmbmocineegoaaCandB
namespace Go.Proofs.Ytcmbmocineegoaa
open Go.ChangeShapes Go.WideShapes Go.ChangeAt Go.RowKit Go.Deep Go.Joins

theorem mem_keys {l : List C3} {d : D} : d ∈ keys l ↔ ∃ i, i < l.length ∧ canC (at3 l i) = true ∧ key (at3 l i) = d := by
  unfold keys
  rw [List.mem_map]
  constructor
  · rintro ⟨c, hc, rfl⟩
    rw [List.mem_filter] at hc
    obtain ⟨i, hi, e⟩ := mem_at3 hc.1
    exact ⟨i, hi, by rw [e]; exact hc.2, by rw [e]⟩
  · rintro ⟨i, hi, hc, rfl⟩
    exact ⟨at3 l i, List.mem_filter.2 ⟨at3_mem hi, hc⟩, rfl⟩
theorem head_mem {s : List D} {l : List C3} (hp : s.Perm (keys l)) (h : 0 < s.length) : at_ s 0 ∈ keys l := hp.mem_iff.1 (at_mem h)
theorem head_le {s : List D} {l : List C3} (hp : s.Perm (keys l)) (hr : Rising s) {d : D} (h : d ∈ keys l) : 0 < s.length ∧ less d (at_ s 0) = false := by
  obtain ⟨j, hj, e⟩ := mem_at (hp.mem_iff.2 h)
  refine ⟨by omega, ?_⟩
  rw [← e]
  rcases Nat.eq_zero_or_pos j with h0 | h0
  · rw [h0]; exact less_irrefl _
  · exact rising_at hr h0 hj
theorem head_none {s : List D} {l : List C3} (hp : s.Perm (keys l)) (h : ¬ 0 < s.length) : keys l = [] := by
  have : s = [] := List.eq_nil_of_length_eq_zero (by omega)
  rw [this] at hp
  exact List.perm_nil.1 hp.symm
/-- More charge for one of them. -/
theorem charge_law {l : List C3} {i : Nat} (hi : i < l.length) (m : Int) (hm : 0 ≤ m) {s t : List D} (hs : s.Perm (keys l)) (hrs : Rising s) (ht : t.Perm (keys (l.set i ((at3 l i).1, (at3 l i).2.1, (at3 l i).2.2 + m)))) (hrt : Rising t) :
    (0 < s.length → 0 < t.length ∧ ((at_ t 0).2 = (at_ s 0).2 ∨ (at_ t 0).2 = (at3 l i).1)) ∧ (¬ 0 < s.length → ¬ 0 < t.length ∨ (at_ t 0).2 = (at3 l i).1) := by
  have up : ∀ d, d ∈ keys l → d ∈ keys (l.set i ((at3 l i).1, (at3 l i).2.1, (at3 l i).2.2 + m)) := fun d hd => by
    obtain ⟨j, hj, hc, e⟩ := mem_keys.1 hd
    refine mem_keys.2 ⟨j, by simpa using hj, ?_⟩
    rw [at3_set hi]
    by_cases h : i = j
    · subst h
      rw [if_pos rfl]
      refine ⟨?_, e⟩
      unfold canC at hc ⊢
      simp only [Bool.and_eq_true, decide_eq_true_eq] at hc ⊢
      omega
    · rw [if_neg h]; exact ⟨hc, e⟩
  have down : ∀ d, d ∈ keys (l.set i ((at3 l i).1, (at3 l i).2.1, (at3 l i).2.2 + m)) → d ∈ keys l ∨ d = key (at3 l i) := fun d hd => by
    obtain ⟨j, hj, hc, e⟩ := mem_keys.1 hd
    rw [List.length_set] at hj
    rw [at3_set hi] at hc e
    by_cases h : i = j
    · rw [if_pos h] at e
      exact .inr e.symm
    · rw [if_neg h] at hc e
      exact .inl (mem_keys.2 ⟨j, hj, hc, e⟩)
  constructor
  · intro h0
    obtain ⟨h1, h2⟩ := head_le ht hrt (up _ (head_mem hs h0))
    refine ⟨h1, ?_⟩
    rcases down _ (head_mem ht h1) with h | h
    · have h3 := (head_le hs hrs h).2
      exact .inl (by rw [less_total h3 h2])
    · exact .inr (by rw [h]; rfl)
  · intro h0
    by_cases h1 : 0 < t.length
    · right
      rcases down _ (head_mem ht h1) with h | h
      · rw [head_none hs h0] at h; cases h
      · rw [h]; rfl
    · exact .inl h1
theorem TRow.charge {w : World} {g cap : Nat} {l : List C3} (h : TRow w g cap l) {i : Nat} (hi : i < l.length) (v : Int) : TRow (w.setCell ⟨g, i * 3 + 2, none⟩ (.int .i64 v)) g cap (l.set i ((at3 l i).1, (at3 l i).2.1, v)) := by
  obtain ⟨⟨cur, hg, hs, hc⟩, hcap, hmax⟩ := h
  refine ⟨⟨cur.setIfInBounds (i * 3 + 2) (.int .i64 v), ?_, by simp [hs], fun j hj => ?_⟩, by simpa using hcap, hmax⟩
  · simp [World.setCell, Array.getElem?_modify, hg]
  · rw [List.length_set] at hj
    rw [at3_set hi]
    simp only [Array.getElem?_setIfInBounds]
    obtain ⟨h1, h2, h3⟩ := hc j hj
    by_cases e : i = j
    · subst e
      rw [if_pos rfl]
      refine ⟨?_, ?_, ?_⟩
      · rw [if_neg (by omega)]; exact h1
      · rw [if_neg (by omega)]; exact h2
      · rw [if_pos rfl, if_pos (by omega)]
    · rw [if_neg e]
      refine ⟨?_, ?_, ?_⟩
      · rw [if_neg (by omega)]; exact h1
      · rw [if_neg (by omega)]; exact h2
      · rw [if_neg (by omega)]; exact h3

theorem list_of3 {Q : Nat → C3 → Prop} (n : Nat) : (∀ i, i < n → ∃ d, Q i d) → ∃ l : List C3, l.length = n ∧ ∀ i, i < n → Q i (at3 l i) := by
  induction n with
  | zero => exact fun _ => ⟨[], rfl, fun i hi => by omega⟩
  | succ n ih =>
    intro h
    obtain ⟨l, hl, hq⟩ := ih (fun i hi => h i (by omega))
    obtain ⟨d, hd⟩ := h n (by omega)
    refine ⟨l ++ [d], by simp [hl], fun i hi => ?_⟩
    by_cases e : i < n
    · rw [at3_append_lt (by omega)]; exact hq i e
    · have e2 : i = n := by omega
      subst e2
      subst hl
      rw [at3_append_eq]; exact hd
section
variable {H : Type} {enc : TypeId × Value → H} {W : World}
theorem i64_wf {n : Int} (h : (Lit.int .i64 n).wf = true) : -9223372036854775808 ≤ n ∧ n ≤ 9223372036854775807 := by
  simp [Lit.wf, IntKind.min, IntKind.max, IntKind.signed, IntKind.bits] at h
  omega
theorem u8_wf {n : Int} (h : (Lit.int .u8 n).wf = true) : ∃ m : Nat, n = (m : Int) ∧ m < 256 := by
  simp [Lit.wf, IntKind.min, IntKind.max, IntKind.signed, IntKind.bits] at h
  exact ⟨n.toNat, by omega, by omega⟩
theorem open_u8 {v : Value} {d : DataW H} {p : List MemPlace} (hv : Value.okWide Try.prog W .any 0 5 v) (h : DataW.Trod enc Try.prog W 0 (fun _ => true) true 5 v d p) : ∃ m : Nat, v = .int .u8 (m : Int) ∧ m < 256 := by
  obtain ⟨n, rfl⟩ := okWide_int Try.underlying5 hv
  obtain ⟨fuel, hf⟩ := h
  obtain ⟨n', e, _, hw⟩ := DataW.trod_int Try.underlying5 hf
  cases e
  obtain ⟨m, rfl, hm⟩ := u8_wf hw
  exact ⟨m, rfl, hm⟩
theorem open_cand {v : Value} {d : DataW H} {p : List MemPlace} (hv : Value.okWide Try.prog W .any 0 53 v) (h : DataW.Trod enc Try.prog W 0 (fun _ => true) true 53 v d p) : ∃ x : C3, v = tv x := by
  obtain ⟨v0, v1, v2, y0, y1, y2, n, rfl, _, _, h0, h1, h2⟩ := open_agg3 Try.underlying53 (by kernel_rfl) (by kernel_rfl) hv h
  obtain ⟨a, e0, _, _⟩ := DataW.trod_int Try.underlying3 h0
  obtain ⟨b, e1, _, _⟩ := DataW.trod_int Try.underlying3 h1
  obtain ⟨c, e2, _, _⟩ := DataW.trod_int Try.underlying3 h2
  cases e0
  cases e1
  cases e2
  exact ⟨(a, b, c), rfl⟩
theorem open_cands {v : Value} {d : DataW H} {p : List MemPlace} (hv : Value.okWide Try.prog W .any 0 44 v) (h : DataW.Trod enc Try.prog W 0 (fun _ => true) true 44 v d p) :
    ∃ (A : Option Addr) (c : Nat) (l : List C3), v = .slice A l.length c ∧ l.length ≤ maxLen ∧ CReads W W.heap.size A l ∧ ∀ j, j < l.length → -9223372036854775808 ≤ (at3 l j).2.2 := by
  obtain ⟨a0, len, cap, rfl⟩ := okWide_slice Try.underlying44 hv
  obtain ⟨fuel, hf⟩ := h
  rcases open_slice_fields Try.underlying44 Try.underlying53 (by kernel_rfl) (by kernel_rfl : Try.prog.cellsOf 53 = 3) hf with ⟨hcs, _⟩ | ⟨a, len', cap', m, D', Pl, hcs, _, hl, hm, hmm, _, hi⟩
  · cases hcs
    exact ⟨none, 0, [], rfl, by simp [maxLen], fun h => by simp at h, fun j hj => by simp at hj⟩
  · cases hcs
    have hmc : len ≤ m := by rw [hmm]; simpa using hl
    obtain ⟨l, hll, hq⟩ := list_of3 (Q := fun i d => (W.cell? (a.add (i * 3)) = some (.int .i64 d.1) ∧ W.cell? ((a.add (i * 3)).add 1) = some (.int .i64 d.2.1) ∧ W.cell? ((a.add (i * 3)).add 2) = some (.int .i64 d.2.2)) ∧ -9223372036854775808 ≤ d.2.2) len (fun i hi' => by
      obtain ⟨ys, n, _, _, _, hj⟩ := hi i (by omega)
      obtain ⟨u0, y0, c0, _, t0⟩ := hj 0 _ rfl
      obtain ⟨u1, y1, c1, _, t1⟩ := hj 1 _ rfl
      obtain ⟨u2, y2, c2, _, t2⟩ := hj 2 _ rfl
      obtain ⟨b0, e0, _, _⟩ := DataW.trod_int Try.underlying3 t0
      obtain ⟨b1, e1, _, _⟩ := DataW.trod_int Try.underlying3 t1
      obtain ⟨b2, e2, _, w2⟩ := DataW.trod_int Try.underlying3 t2
      cases e0
      cases e1
      cases e2
      refine ⟨(b0, b1, b2), ⟨?_, ?_, ?_⟩, (i64_wf w2).1⟩
      · simpa using c0
      · rw [add_add]; simpa using c1
      · rw [add_add]; simpa using c2)
    refine ⟨some a, cap, l, by rw [hll], by omega, fun hl0 => ⟨a, rfl, ?_, fun j hj => (hq j (by omega)).1⟩, fun j hj => (hq j (by omega)).2⟩
    have := World.block_lt_of_cell? W _ (hq 0 (by omega)).1.1
    rw [block_add] at this
    exact this
end
section
variable {ρ : Operand → Value} {o : Oper}
theorem run_conv8 {x : Operand} (ho : o.op = .convert 5 3 x) {n : Nat} (hx : ρ x = .int .u8 (n : Int)) (hn : n < 256) (w : World) : (execOp ρ o).run Try.prog w = .ok (.value (.int .i64 (n : Int))) w := by
  unfold execOp
  rw [ho]
  have : IntKind.i64.wrap (n : Int) = (n : Int) := by rw [IntKind.wrap_i64]; omega
  simp [go_sem, hx, this]
end
end Go.Proofs.Ytcmbmocineegoaa
