/-
  Triples (a robot, a cost, a charge), their rows in memory, who can, and the pairs that they are ordered by.
  Conditions: none.
-/
import Derived.Test.YtcmbmocineegoaaPlaysA
namespace Go.Proofs.Ytcmbmocineegoaa
open Go.ChangeShapes Go.WideShapes Go.ChangeAt Go.RowKit

abbrev C3 := Int × Int × Int
def at3 (l : List C3) (i : Nat) : C3 := l.getD i (0, 0, 0)
theorem at3_mem {l : List C3} {i : Nat} (h : i < l.length) : at3 l i ∈ l := by
  unfold at3; rw [List.getD_eq_getElem?_getD, List.getElem?_eq_getElem h]; exact List.getElem_mem h
theorem at3_some {l : List C3} {i : Nat} (h : i < l.length) : l[i]? = some (at3 l i) := by
  unfold at3; rw [List.getD_eq_getElem?_getD, List.getElem?_eq_getElem h]; rfl
theorem mem_at3 {l : List C3} {a : C3} (h : a ∈ l) : ∃ i, i < l.length ∧ at3 l i = a := by
  obtain ⟨i, hi, e⟩ := List.getElem_of_mem h
  exact ⟨i, hi, by unfold at3; rw [List.getD_eq_getElem?_getD, List.getElem?_eq_getElem hi]; exact e⟩
theorem at3_append_lt {l m : List C3} {i : Nat} (h : i < l.length) : at3 (l ++ m) i = at3 l i := by
  unfold at3; rw [List.getD_eq_getElem?_getD, List.getD_eq_getElem?_getD, List.getElem?_append_left h]
theorem at3_append_eq (l : List C3) (x : C3) : at3 (l ++ [x]) l.length = x := by
  unfold at3; rw [List.getD_eq_getElem?_getD, List.getElem?_append_right (by omega)]; simp
theorem at3_set {l : List C3} {i : Nat} (hi : i < l.length) (d : C3) (j : Nat) : at3 (l.set i d) j = if i = j then d else at3 l j := by
  unfold at3
  rw [List.getD_eq_getElem?_getD, List.getD_eq_getElem?_getD, List.getElem?_set]
  by_cases e : i = j
  · rw [if_pos e, if_pos e, if_pos hi]; rfl
  · rw [if_neg e, if_neg e]
/-- A candidate that can. -/
def canC (c : C3) : Bool := decide (0 ≤ c.2.1) && decide (c.2.1 ≤ c.2.2)
/-- The pair that it is ordered by. -/
def key (c : C3) : D := (c.2.1, c.1)
/-- The pairs of those that can. -/
def keys (l : List C3) : List D := (l.filter canC).map key
def tv (c : C3) : Value := .agg #[.int .i64 c.1, .int .i64 c.2.1, .int .i64 c.2.2]
def tcells : List C3 → List Value
  | [] => []
  | d :: l => .int .i64 d.1 :: .int .i64 d.2.1 :: .int .i64 d.2.2 :: tcells l
theorem tcells_length (l : List C3) : (tcells l).length = l.length * 3 := by
  induction l with
  | nil => rfl
  | cons d l ih => simp only [tcells, List.length_cons, ih]; omega
theorem tcells_append (l m : List C3) : tcells (l ++ m) = tcells l ++ tcells m := by
  induction l with
  | nil => rfl
  | cons d l ih => simp only [tcells, List.cons_append, ih]
theorem tcells_at (l : List C3) : ∀ j, j < l.length → (tcells l)[j * 3]? = some (.int .i64 (at3 l j).1) ∧ (tcells l)[j * 3 + 1]? = some (.int .i64 (at3 l j).2.1) ∧ (tcells l)[j * 3 + 2]? = some (.int .i64 (at3 l j).2.2) := by
  induction l with
  | nil => intro j hj; simp at hj
  | cons d l ih =>
    intro j hj
    cases j with
    | zero => exact ⟨rfl, rfl, rfl⟩
    | succ j =>
      obtain ⟨a, b, c⟩ := ih j (by simpa using hj)
      have e1 : (j + 1) * 3 = j * 3 + 3 := by omega
      have e2 : (j + 1) * 3 + 1 = j * 3 + 1 + 3 := by omega
      have e3 : (j + 1) * 3 + 2 = j * 3 + 2 + 3 := by omega
      rw [e3, e2, e1]
      exact ⟨a, b, c⟩
theorem tcells_one (l : List C3) : ∀ u ∈ tcells l, u.oneCell' = true := by
  induction l with
  | nil => intro u hu; simp [tcells] at hu
  | cons d l ih =>
    intro u hu
    simp only [tcells, List.mem_cons] at hu
    rcases hu with rfl | rfl | rfl | hu
    · rfl
    · rfl
    · rfl
    · exact ih u hu

/-- The slice's first cells, three for each item, are those of the list; they lie below the block B. -/
def CReads (w : World) (B : Nat) (A : Option Addr) (l : List C3) : Prop :=
  0 < l.length → ∃ ad, A = some ad ∧ ad.block < B ∧ ∀ j, j < l.length → w.cell? (ad.add (j * 3)) = some (.int .i64 (at3 l j).1) ∧ w.cell? ((ad.add (j * 3)).add 1) = some (.int .i64 (at3 l j).2.1) ∧ w.cell? ((ad.add (j * 3)).add 2) = some (.int .i64 (at3 l j).2.2)
theorem CReads.below {w w' : World} {B : Nat} {A : Option Addr} {l : List C3} (h : CReads w B A l) (hb : Below B w w') : CReads w' B A l := fun h0 => by
  obtain ⟨ad, e, hlt, hc⟩ := h h0
  refine ⟨ad, e, hlt, fun j hj => ?_⟩
  obtain ⟨a, b, c⟩ := hc j hj
  exact ⟨(hb.cell (by rw [block_add]; exact hlt)).trans a, (hb.cell (by rw [block_add, block_add]; exact hlt)).trans b, (hb.cell (by rw [block_add, block_add]; exact hlt)).trans c⟩
theorem CReads.more {w : World} {B B' : Nat} {A : Option Addr} {l : List C3} (h : CReads w B A l) (hB : B ≤ B') : CReads w B' A l := fun h0 => by
  obtain ⟨ad, e, hlt, hc⟩ := h h0
  exact ⟨ad, e, Nat.lt_of_lt_of_le hlt hB, hc⟩
theorem creads_cell {W w : World} {ad : Addr} {l : List C3} {j : Nat} {B : Nat} (h : CReads W B (some ad) l) (hb : Below B W w) (hj : j < l.length) : w.cell? (ad.add (j * 3)) = some (.int .i64 (at3 l j).1) ∧ w.cell? ((ad.add (j * 3)).add 1) = some (.int .i64 (at3 l j).2.1) ∧ w.cell? ((ad.add (j * 3)).add 2) = some (.int .i64 (at3 l j).2.2) := by
  obtain ⟨ad', e, _, hc⟩ := (h.below hb) (by omega)
  cases e
  exact hc j hj
theorem creads_of {w : World} {B : Nat} {A : Option Addr} {l : List C3} (h : CReads w B A l) : Reads w B 3 A l.length (tcells l) := by
  refine ⟨tcells_length l, fun h0 => ?_⟩
  obtain ⟨ad, e, hlt, hc⟩ := h h0
  refine ⟨ad, e, hlt, fun j u hj => ?_⟩
  have hjl : j < l.length * 3 := by
    rcases Nat.lt_or_ge j (l.length * 3) with h | h
    · exact h
    · rw [List.getElem?_eq_none (by rw [tcells_length]; exact h)] at hj; cases hj
  obtain ⟨i, hi⟩ : ∃ i, j = i * 3 ∨ j = i * 3 + 1 ∨ j = i * 3 + 2 := ⟨j / 3, by omega⟩
  obtain ⟨a, b, c⟩ := tcells_at l i (by omega)
  obtain ⟨a', b', c'⟩ := hc i (by omega)
  rcases hi with e | e | e
  · rw [e, a] at hj; cases hj
    rw [e]; exact a'
  · rw [e, b] at hj; cases hj
    rw [e, ← add_add]; exact b'
  · rw [e, c] at hj; cases hj
    rw [e, ← add_add]; exact c'
/-- A row of triples, whole. -/
structure TRow (w : World) (g cap : Nat) (l : List C3) : Prop where
  ex : ∃ cur : Array Value, w.heap[g]? = some (.cells cur 55 (0, 0)) ∧ cur.size = cap * 3 ∧ ∀ j, j < l.length → cur[j * 3]? = some (.int .i64 (at3 l j).1) ∧ cur[j * 3 + 1]? = some (.int .i64 (at3 l j).2.1) ∧ cur[j * 3 + 2]? = some (.int .i64 (at3 l j).2.2)
  cap_ : l.length ≤ cap
  max : cap ≤ maxLen
theorem TRow.lt {w : World} {g cap : Nat} {l : List C3} (h : TRow w g cap l) : g < w.heap.size := by
  obtain ⟨cur, hg, _⟩ := h.ex
  exact row_lt hg
theorem addr_add (g j : Nat) : (⟨g, 0, none⟩ : Addr).add j = ⟨g, j, none⟩ := by unfold Addr.add; split <;> simp_all
theorem addr_add2 (g i j : Nat) : (⟨g, i, none⟩ : Addr).add j = ⟨g, i + j, none⟩ := by unfold Addr.add; split <;> simp_all
theorem TRow.cell {w : World} {g cap : Nat} {l : List C3} (h : TRow w g cap l) {j : Nat} (hj : j < l.length) : w.cell? ⟨g, j * 3, none⟩ = some (.int .i64 (at3 l j).1) ∧ w.cell? ⟨g, j * 3 + 1, none⟩ = some (.int .i64 (at3 l j).2.1) ∧ w.cell? ⟨g, j * 3 + 2, none⟩ = some (.int .i64 (at3 l j).2.2) := by
  obtain ⟨cur, hg, _, hc⟩ := h.ex
  rw [cell_of_row w g _ cur 55 (0, 0) hg, cell_of_row w g _ cur 55 (0, 0) hg, cell_of_row w g _ cur 55 (0, 0) hg]; exact hc j hj
theorem TRow.reads {w : World} {g cap : Nat} {l : List C3} (h : TRow w g cap l) : CReads w w.heap.size (some ⟨g, 0, none⟩) l := fun _ => ⟨_, rfl, h.lt, fun j hj => by
  rw [addr_add, addr_add2, addr_add2]; exact h.cell hj⟩
theorem TRow.free {w : World} {g cap : Nat} {l : List C3} (h : TRow w g cap l) (i : Nat) : w.frozen? ⟨g, i, none⟩ = false := by
  obtain ⟨cur, hg, _, hc⟩ := h.ex
  simp [World.frozen?, hg]
theorem TRow.keep {w w' : World} {g cap : Nat} {l : List C3} (h : TRow w g cap l) (hk : w'.heap[g]? = w.heap[g]?) : TRow w' g cap l := ⟨by rw [hk]; exact h.ex, h.cap_, h.max⟩
theorem TRow.take {w : World} {g cap : Nat} {l : List C3} (h : TRow w g cap l) (m : Nat) : TRow w g cap (l.take m) := by
  obtain ⟨⟨cur, hg, hs, hc⟩, hcap, hmax⟩ := h
  refine ⟨⟨cur, hg, hs, fun j hj => ?_⟩, by rw [List.length_take]; omega, hmax⟩
  rw [List.length_take] at hj
  have e : at3 (l.take m) j = at3 l j := by
    unfold at3; rw [List.getD_eq_getElem?_getD, List.getD_eq_getElem?_getD, List.getElem?_take, if_pos (by omega)]
  rw [e]
  exact hc j (by omega)
theorem trow_of_own {w : World} {B n : Nat} {v : Value} {l : List C3} (h : w.ownsRow B 55 3 v n (tcells l)) (hn : n = l.length) (h0 : 0 < n) : ∃ g cap, v = .slice (some ⟨g, 0, none⟩) l.length cap ∧ B ≤ g ∧ TRow w g cap l := by
  subst hn
  obtain ⟨_, h2⟩ := h
  rcases h2 with ⟨_, h2⟩ | ⟨g, cap, cur, hv, hg, hh, hc, hm, hs, hcs⟩
  · omega
  · refine ⟨g, cap, hv, hg, ⟨cur, hh, hs, fun j hj => ?_⟩, hc, hm⟩
    obtain ⟨a, b, c⟩ := tcells_at l j hj
    rw [← hcs, List.getElem?_take, if_pos (by omega), Array.getElem?_toList] at a
    rw [← hcs, List.getElem?_take, if_pos (by omega), Array.getElem?_toList] at b
    rw [← hcs, List.getElem?_take, if_pos (by omega), Array.getElem?_toList] at c
    exact ⟨a, b, c⟩
theorem own_of_trow {w : World} {B g cap : Nat} {l : List C3} (h : TRow w g cap l) (hB : B ≤ g) : w.ownsRow B 55 3 (.slice (some ⟨g, 0, none⟩) l.length cap) l.length (tcells l) := by
  obtain ⟨⟨cur, hg, hs, hc⟩, hcap, hmax⟩ := h
  refine ⟨tcells_length l, .inr ⟨g, cap, cur, rfl, hB, hg, hcap, hmax, hs, ?_⟩⟩
  apply List.ext_getElem?
  intro i
  rw [List.getElem?_take, Array.getElem?_toList]
  by_cases hi : i < l.length * 3
  · rw [if_pos hi]
    have hj : i / 3 < l.length := by omega
    obtain ⟨a, b, c⟩ := tcells_at l (i / 3) hj
    obtain ⟨a', b', c'⟩ := hc (i / 3) hj
    have h3 : i % 3 = 0 ∨ i % 3 = 1 ∨ i % 3 = 2 := by omega
    rcases h3 with h | h | h
    · have e : i = i / 3 * 3 := by omega
      rw [e, a, a']
    · have e : i = i / 3 * 3 + 1 := by omega
      rw [e, b, b']
    · have e : i = i / 3 * 3 + 2 := by omega
      rw [e, c, c']
  · rw [if_neg hi, List.getElem?_eq_none (by rw [tcells_length]; omega)]
theorem own_creads {w : World} {B n : Nat} {v : Value} {l : List C3} (h : w.ownsRow B 55 3 v n (tcells l)) (hn : n = l.length) : ∃ (A : Option Addr) (c : Nat), v = .slice A n c ∧ n ≤ c ∧ CReads w w.heap.size A l := by
  subst hn
  rcases Nat.eq_zero_or_pos l.length with h0 | h0
  · obtain ⟨a, c, rfl⟩ := own_slice h
    refine ⟨a, c, rfl, by omega, fun h => by omega⟩
  · obtain ⟨g, cap, hv, hB, hR⟩ := trow_of_own h rfl h0
    exact ⟨_, _, hv, hR.cap_, hR.reads⟩
theorem own_creads_is {w : World} {B n : Nat} {A : Option Addr} {c : Nat} {l : List C3} (h : w.ownsRow B 55 3 (.slice A n c) n (tcells l)) (hn : n = l.length) : CReads w w.heap.size A l := by
  obtain ⟨A', c', e, _, h2⟩ := own_creads h hn
  cases e
  exact h2
/-- Cells written from an offset on. -/
theorem setCells_row {g : Nat} {t : TypeId} {fr : Nat × Nat} : ∀ (vs : List Value) (o : Nat) (w : World) (cur : Array Value), w.heap[g]? = some (.cells cur t fr) →
    ∃ cur' : Array Value, (w.setCells g o vs).heap[g]? = some (.cells cur' t fr) ∧ cur'.size = cur.size ∧ ∀ j, j < o → cur'[j]? = cur[j]? := by
  intro vs
  induction vs with
  | nil => intro o w cur h; exact ⟨cur, h, rfl, fun _ _ => rfl⟩
  | cons v r ih =>
    intro o w cur h
    obtain ⟨c', h1, h2, h3⟩ := ih (o + 1) (w.setCell ⟨g, o, none⟩ v) (cur.setIfInBounds o v) (by simp [World.setCell, Array.getElem?_modify, h])
    refine ⟨c', h1, by rw [h2]; simp, fun j hj => ?_⟩
    rw [h3 j (by omega), Array.getElem?_setIfInBounds, if_neg (by omega)]
theorem setCells_other (g : Nat) : ∀ (vs : List Value) (o : Nat) (w : World) (k : Nat), k ≠ g → (w.setCells g o vs).heap[k]? = w.heap[k]? := by
  intro vs
  induction vs with
  | nil => intro o w k _; rfl
  | cons v r ih =>
    intro o w k hk
    exact (ih (o + 1) (w.setCell ⟨g, o, none⟩ v) k hk).trans (Below.heap_setCell _ _ _ _ hk)
theorem setCells_size (g : Nat) : ∀ (vs : List Value) (o : Nat) (w : World), (w.setCells g o vs).heap.size = w.heap.size := by
  intro vs
  induction vs with
  | nil => intro o w; rfl
  | cons v r ih =>
    intro o w
    exact (ih (o + 1) (w.setCell ⟨g, o, none⟩ v)).trans (by simp)
theorem setCells_kept (w : World) (g o : Nat) (vs : List Value) : Kept (· = g) w (w.setCells g o vs) := by
  have h : ∀ (vs : List Value) (o : Nat) (w : World), (w.setCells g o vs).os = w.os ∧ (w.setCells g o vs).tape = w.tape ∧ (w.setCells g o vs).output = w.output := by
    intro vs
    induction vs with
    | nil => intro o w; exact ⟨rfl, rfl, rfl⟩
    | cons v r ih => intro o w; exact ih (o + 1) (w.setCell ⟨g, o, none⟩ v)
  exact ⟨(h vs o w).1, (h vs o w).2.1, (h vs o w).2.2, by rw [setCells_size]; exact Nat.le_refl _, fun k _ hk => setCells_other g vs o w k hk⟩
/-- A triple is stored. -/
def putT (w : World) (g i : Nat) (d : C3) : World := ((w.setCell ⟨g, i * 3, none⟩ (.int .i64 d.1)).setCell ⟨g, i * 3 + 1, none⟩ (.int .i64 d.2.1)).setCell ⟨g, i * 3 + 2, none⟩ (.int .i64 d.2.2)
theorem putT_other (w : World) (g i : Nat) (d : C3) (k : Nat) (h : k ≠ g) : (putT w g i d).heap[k]? = w.heap[k]? := by
  unfold putT
  rw [Below.heap_setCell _ _ _ _ h, Below.heap_setCell _ _ _ _ h, Below.heap_setCell _ _ _ _ h]
theorem putT_size (w : World) (g i : Nat) (d : C3) : (putT w g i d).heap.size = w.heap.size := by unfold putT; simp
theorem putT_kept (w : World) (g i : Nat) (d : C3) : Kept (· = g) w (putT w g i d) :=
  ⟨by unfold putT; rfl, by unfold putT; rfl, by unfold putT; rfl, by rw [putT_size]; exact Nat.le_refl _, fun k _ h => putT_other w g i d k h⟩
theorem TRow.put {w : World} {g cap : Nat} {l : List C3} (h : TRow w g cap l) {i : Nat} (hi : i < l.length) (d : C3) : TRow (putT w g i d) g cap (l.set i d) := by
  obtain ⟨⟨cur, hg, hs, hc⟩, hcap, hmax⟩ := h
  refine ⟨⟨((cur.setIfInBounds (i * 3) (.int .i64 d.1)).setIfInBounds (i * 3 + 1) (.int .i64 d.2.1)).setIfInBounds (i * 3 + 2) (.int .i64 d.2.2), ?_, by simp [hs], fun j hj => ?_⟩, by simpa using hcap, hmax⟩
  · unfold putT
    simp [World.setCell, Array.getElem?_modify, hg]
  · rw [List.length_set] at hj
    rw [at3_set hi]
    simp only [Array.getElem?_setIfInBounds, Array.size_setIfInBounds]
    obtain ⟨h1, h2, h3⟩ := hc j hj
    by_cases e : i = j
    · subst e
      refine ⟨?_, ?_, ?_⟩
      · rw [if_neg (by omega), if_neg (by omega), if_pos rfl, if_pos (by omega), if_pos rfl]
      · rw [if_neg (by omega), if_pos rfl, if_pos (by omega), if_pos rfl]
      · rw [if_pos rfl, if_pos (by omega), if_pos rfl]
    · rw [if_neg e]
      refine ⟨?_, ?_, ?_⟩
      · rw [if_neg (by omega), if_neg (by omega), if_neg (by omega)]; exact h1
      · rw [if_neg (by omega), if_neg (by omega), if_neg (by omega)]; exact h2
      · rw [if_neg (by omega), if_neg (by omega), if_neg (by omega)]; exact h3
end Go.Proofs.Ytcmbmocineegoaa
