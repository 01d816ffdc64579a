/-
  Pairs by cost and number, and the order of a heap on a list of them: what a step up, a step down, a push and a pop do to it. No program in sight.
  Conditions: none.
-/
import Derived.Test.YtcmbmocineegoaaKit
namespace Go.Proofs.Ytcmbmocineegoaa

abbrev D := Int × Int
/-- The order: by cost, then by number. -/
def less (a b : D) : Bool := if a.1 = b.1 then decide (a.2 < b.2) else decide (a.1 < b.1)
theorem less_iff (a b : D) : less a b = true ↔ a.1 < b.1 ∨ (a.1 = b.1 ∧ a.2 < b.2) := by
  unfold less
  by_cases h : a.1 = b.1
  · rw [if_pos h, decide_eq_true_eq]; omega
  · rw [if_neg h, decide_eq_true_eq]; omega
theorem less_not (a b : D) : less a b = false ↔ b.1 < a.1 ∨ (a.1 = b.1 ∧ b.2 ≤ a.2) := by
  rw [← Bool.not_eq_true, less_iff]; omega
theorem less_irrefl (a : D) : less a a = false := by rw [less_not]; omega
theorem less_asymm {a b : D} (h : less a b = true) : less b a = false := by rw [less_iff] at h; rw [less_not]; omega
theorem less_trans {a b c : D} (h : less a b = true) (k : less b c = true) : less a c = true := by rw [less_iff] at *; omega
theorem le_trans' {a b c : D} (h : less b a = false) (k : less c b = false) : less c a = false := by rw [less_not] at *; omega
theorem less_total {a b : D} (h : less a b = false) (k : less b a = false) : a = b := by
  rw [less_not] at *
  obtain ⟨a1, a2⟩ := a
  obtain ⟨b1, b2⟩ := b
  have h1 : a1 = b1 := by simp only at h k; omega
  have h2 : a2 = b2 := by simp only at h k; omega
  rw [h1, h2]

def at_ (l : List D) (i : Nat) : D := l.getD i (0, 0)
theorem at_mem {l : List D} {i : Nat} (h : i < l.length) : at_ l i ∈ l := by
  unfold at_; rw [List.getD_eq_getElem?_getD, List.getElem?_eq_getElem h]; exact List.getElem_mem h
theorem at_some {l : List D} {i : Nat} (h : i < l.length) : l[i]? = some (at_ l i) := by
  unfold at_; rw [List.getD_eq_getElem?_getD, List.getElem?_eq_getElem h]; rfl
theorem mem_at {l : List D} {a : D} (h : a ∈ l) : ∃ i, i < l.length ∧ at_ l i = a := by
  obtain ⟨i, hi, e⟩ := List.getElem_of_mem h
  exact ⟨i, hi, by unfold at_; rw [List.getD_eq_getElem?_getD, List.getElem?_eq_getElem hi]; exact e⟩

/-- Two change places. -/
def swapL (l : List D) (i k : Nat) : List D := (l.set i (at_ l k)).set k (at_ l i)
theorem swap_length (l : List D) (i k : Nat) : (swapL l i k).length = l.length := by unfold swapL; simp
theorem at_swap {l : List D} {i k : Nat} (hi : i < l.length) (hk : k < l.length) (j : Nat) : at_ (swapL l i k) j = if j = k then at_ l i else if j = i then at_ l k else at_ l j := by
  unfold swapL at_
  simp only [List.getD_eq_getElem?_getD, List.getElem?_set, List.length_set]
  by_cases h1 : k = j
  · subst h1; simp [hk]
  · rw [if_neg h1, if_neg (Ne.symm h1)]
    by_cases h2 : i = j
    · subst h2; simp [hi]
    · rw [if_neg h2, if_neg (Ne.symm h2)]
theorem swap_perm {l : List D} {i k : Nat} (hi : i < l.length) (hk : k < l.length) : (swapL l i k).Perm l := by
  have e : swapL l i k = (l.set i l[k]).set k l[i] := by
    unfold swapL at_
    rw [List.getD_eq_getElem?_getD, List.getD_eq_getElem?_getD, List.getElem?_eq_getElem hi, List.getElem?_eq_getElem hk]; rfl
  rw [e]
  exact List.set_set_perm hi hk

def HAll (l : List D) : Prop := ∀ j, 0 < j → j < l.length → less (at_ l j) (at_ l ((j - 1) / 2)) = false
def HUp (l : List D) (i : Nat) : Prop :=
  (∀ j, 0 < j → j < l.length → j ≠ i → less (at_ l j) (at_ l ((j - 1) / 2)) = false) ∧
  (0 < i → ∀ j, 0 < j → j < l.length → (j - 1) / 2 = i → less (at_ l j) (at_ l ((i - 1) / 2)) = false)
def HDown (l : List D) (i : Nat) : Prop :=
  (∀ j, 0 < j → j < l.length → (j - 1) / 2 ≠ i → less (at_ l j) (at_ l ((j - 1) / 2)) = false) ∧
  (0 < i → ∀ j, 0 < j → j < l.length → (j - 1) / 2 = i → less (at_ l j) (at_ l ((i - 1) / 2)) = false)

theorem hall_nil : HAll [] := fun j _ h => by simp at h
theorem at_append_lt {l m : List D} {i : Nat} (h : i < l.length) : at_ (l ++ m) i = at_ l i := by
  unfold at_; rw [List.getD_eq_getElem?_getD, List.getD_eq_getElem?_getD, List.getElem?_append_left h]
theorem push_start {l : List D} (h : HAll l) (x : D) : HUp (l ++ [x]) l.length := by
  refine ⟨fun j h0 hl hj => ?_, fun _ j h0 hl hj => ?_⟩
  · rw [List.length_append, List.length_singleton] at hl
    rw [at_append_lt (by omega), at_append_lt (by omega)]
    exact h j h0 (by omega)
  · rw [List.length_append, List.length_singleton] at hl
    omega
theorem up_step {l : List D} {i p : Nat} (h : HUp l i) (h0 : 0 < i) (hi : i < l.length) (hp : p = (i - 1) / 2) (hl : less (at_ l i) (at_ l p) = true) : HUp (swapL l i p) p := by
  have hpi : p < i := by omega
  have hpl : p < l.length := by omega
  obtain ⟨h1, h2⟩ := h
  have h2 := h2 h0
  rw [← hp] at h2
  refine ⟨fun j j0 jl jp => ?_, fun p0 j j0 jl jp => ?_⟩
  · rw [swap_length] at jl
    rw [at_swap hi hpl, at_swap hi hpl, if_neg jp]
    by_cases e : j = i
    · subst e
      rw [← hp, if_pos rfl, if_pos rfl]
      exact less_asymm hl
    · rw [if_neg e]
      have hj := h1 j j0 jl e
      by_cases e2 : (j - 1) / 2 = p
      · rw [if_pos e2]
        rw [e2] at hj
        rw [less_not] at *
        rw [less_iff] at hl
        omega
      · rw [if_neg e2]
        by_cases e3 : (j - 1) / 2 = i
        · rw [if_pos e3]; exact h2 j j0 jl e3
        · rw [if_neg e3]; exact hj
  · rw [swap_length] at jl
    rw [at_swap hi hpl, at_swap hi hpl, if_neg (show ¬ j = p by omega), if_neg (show ¬ (p - 1) / 2 = p by omega), if_neg (show ¬ (p - 1) / 2 = i by omega)]
    have hpp := h1 p p0 hpl (by omega)
    by_cases e : j = i
    · rw [if_pos e]; exact hpp
    · rw [if_neg e]
      have hj := h1 j j0 jl e
      rw [jp] at hj
      exact le_trans' hpp hj
theorem up_end {l : List D} {i : Nat} (h : HUp l i) (he : i = 0 ∨ less (at_ l i) (at_ l ((i - 1) / 2)) = false) : HAll l := by
  intro j j0 jl
  by_cases e : j = i
  · subst e
    rcases he with he | he
    · omega
    · exact he
  · exact h.1 j j0 jl e
theorem down_step {l : List D} {i k : Nat} (h : HDown l i) (hk : k = 2 * i + 1 ∨ k = 2 * i + 2) (hkl : k < l.length) (hl : less (at_ l k) (at_ l i) = true)
    (ho : ∀ c, (c - 1) / 2 = i → 0 < c → c < l.length → less (at_ l c) (at_ l k) = false) : HDown (swapL l i k) k := by
  have hi : i < l.length := by omega
  have hpk : (k - 1) / 2 = i := by omega
  obtain ⟨h1, h2⟩ := h
  refine ⟨fun j j0 jl jp => ?_, fun k0 j j0 jl jp => ?_⟩
  · rw [swap_length] at jl
    rw [at_swap hi hkl, at_swap hi hkl, if_neg jp]
    by_cases e : (j - 1) / 2 = i
    · rw [if_pos e]
      by_cases e2 : j = k
      · rw [if_pos e2]; exact less_asymm hl
      · rw [if_neg e2, if_neg (by omega)]; exact ho j e j0 jl
    · rw [if_neg e, if_neg (by omega)]
      by_cases e2 : j = i
      · subst e2
        rw [if_pos rfl]
        exact h2 j0 k (by omega) hkl hpk
      · rw [if_neg e2]; exact h1 j j0 jl e
  · rw [swap_length] at jl
    rw [at_swap hi hkl, at_swap hi hkl, hpk, if_neg (show ¬ j = k by omega), if_neg (show ¬ j = i by omega), if_neg (show ¬ i = k by omega), if_pos rfl]
    have := h1 j j0 jl (by omega)
    rw [jp] at this
    exact this
theorem down_end {l : List D} {i : Nat} (h : HDown l i) (hc : ∀ c, (c - 1) / 2 = i → 0 < c → c < l.length → less (at_ l c) (at_ l i) = false) : HAll l := by
  intro j j0 jl
  by_cases e : (j - 1) / 2 = i
  · rw [e]; exact hc j e j0 jl
  · exact h.1 j j0 jl e
theorem hall_min {l : List D} (h : HAll l) (j : Nat) : j < l.length → less (at_ l j) (at_ l 0) = false := by
  induction j using Nat.strongRecOn with
  | _ j ih =>
    intro hj
    rcases Nat.eq_zero_or_pos j with e | e
    · subst e; exact less_irrefl _
    · exact le_trans' (ih ((j - 1) / 2) (by omega) (by omega)) (h j e hj)
/-- What is left when the first goes and the last takes its place. -/
def popL (l : List D) : List D := (l.set 0 (at_ l (l.length - 1))).take (l.length - 1)
theorem pop_length (l : List D) : (popL l).length = l.length - 1 := by unfold popL; simp
theorem at_pop {l : List D} {j : Nat} (h : j < l.length - 1) : at_ (popL l) j = if j = 0 then at_ l (l.length - 1) else at_ l j := by
  unfold popL
  have : ∀ m : List D, at_ (m.take (l.length - 1)) j = at_ m j := fun m => by
    unfold at_; rw [List.getD_eq_getElem?_getD, List.getD_eq_getElem?_getD, List.getElem?_take, if_pos h]
  rw [this]
  show (l.set 0 _).getD j (0, 0) = _
  rw [List.getD_eq_getElem?_getD, List.getElem?_set]
  by_cases e : j = 0
  · subst e; simp [show 0 < l.length by omega]
  · rw [if_neg (Ne.symm e), if_neg e]; unfold at_; rw [List.getD_eq_getElem?_getD]
theorem pop_start {l : List D} (h : HAll l) : HDown (popL l) 0 := by
  refine ⟨fun j j0 jl jp => ?_, fun h0 => by omega⟩
  rw [pop_length] at jl
  rw [at_pop jl, at_pop (by omega), if_neg (by omega), if_neg jp]
  exact h j j0 (by omega)
theorem pop_perm {l : List D} (h : 0 < l.length) : l.Perm (at_ l 0 :: popL l) := by
  match l, h with
  | a :: t, _ =>
    rcases List.eq_nil_or_concat t with e | ⟨s, b, e⟩
    · subst e; exact List.Perm.refl _
    · rw [List.concat_eq_append] at e
      subst e
      have e1 : at_ (a :: (s ++ [b])) ((a :: (s ++ [b])).length - 1) = b := by unfold at_; simp [List.getD_eq_getElem?_getD]
      unfold popL
      rw [e1]
      have e2 : ((a :: (s ++ [b])).set 0 b).take ((a :: (s ++ [b])).length - 1) = b :: s := by simp
      rw [e2]
      show (a :: (s ++ [b])).Perm (a :: b :: s)
      exact List.Perm.cons _ (List.perm_append_comm (l₁ := s) (l₂ := [b]))

/-- A rising list. -/
def Rising (l : List D) : Prop := l.Pairwise fun a b => less b a = false
theorem rising_unique {l m : List D} (hl : Rising l) (hm : Rising m) (hp : l.Perm m) : l = m :=
  List.Perm.eq_of_pairwise (le := fun a b => less b a = false) (fun _ _ _ _ h k => less_total k h) hl hm hp

end Go.Proofs.Ytcmbmocineegoaa
