/-
  Sets of numbers from 0 to 239 as thirty bytes, in plain Lean: membership by bits, put in, taken out, put together, counted, the first that is not in. No program is in sight.
  Conditions: none.
-/
namespace Go.Proofs.YtnlolhlbpdmljaaGreatDoor

/-- Thirty bytes. -/
structure Set30 (ns : List Nat) : Prop where
  len : ns.length = 30
  byte : ∀ b ∈ ns, b < 256

/-- Is the number i in it? -/
def mem (ns : List Nat) (i : Nat) : Bool := (ns.getD (i / 8) 0).testBit (i % 8)

/-- May a number be in a set? -/
def inB (n : Int) : Bool := decide (0 ≤ n ∧ n < 240)

def hasP (ns : List Nat) (n : Int) : Bool := inB n && mem ns n.toNat
def withP (ns : List Nat) (n : Int) : List Nat := if inB n then ns.set (n.toNat / 8) (ns.getD (n.toNat / 8) 0 ||| 2 ^ (n.toNat % 8)) else ns
def withoutP (ns : List Nat) (n : Int) : List Nat := if inB n then ns.set (n.toNat / 8) (ns.getD (n.toNat / 8) 0 &&& (255 - 2 ^ (n.toNat % 8))) else ns
def bothP (s t : List Nat) : List Nat := List.zipWith (fun a b => a ||| b) s t
/-- s with the first k bytes of t put in. -/
def bothK (s t : List Nat) : Nat → List Nat
  | 0 => s
  | k + 1 => (bothK s t k).set k ((bothK s t k).getD k 0 ||| t.getD k 0)
def pop (b : Nat) : Nat := ((List.range 8).filter fun i => b.testBit i).length
def countP (ns : List Nat) : Nat := (ns.map pop).sum
/-- How many of the numbers below k are in it. -/
def cnt (ns : List Nat) (k : Nat) : Nat := ((List.range k).filter fun i => mem ns i).length

theorem inB_iff {n : Int} : inB n = true ↔ 0 ≤ n ∧ n < 240 := by simp [inB]
theorem inB_nat {i : Nat} (h : i < 240) : inB (i : Int) = true := inB_iff.2 ⟨by omega, by omega⟩
theorem hasP_nat {ns : List Nat} {i : Nat} (h : i < 240) : hasP ns (i : Int) = mem ns i := by simp [hasP, inB_nat h]

theorem Set30.getD_lt {ns : List Nat} (h : Set30 ns) (i : Nat) : ns.getD i 0 < 256 := by
  rw [List.getD_eq_getElem?_getD]
  cases hx : ns[i]? with
  | none => simp
  | some b => exact h.byte b (List.mem_of_getElem? hx)

theorem testBit_high {b j : Nat} (hb : b < 256) (hj : 8 ≤ j) : b.testBit j = false := by
  refine Nat.testBit_lt_two_pow (Nat.lt_of_lt_of_le hb ?_)
  calc 256 = 2 ^ 8 := rfl
    _ ≤ 2 ^ j := Nat.pow_le_pow_right (by omega) hj

/-- Two sets that have the same numbers are one. -/
theorem Set30.ext {a b : List Nat} (ha : Set30 a) (hb : Set30 b) (h : ∀ i, i < 240 → mem a i = mem b i) : a = b := by
  apply List.ext_getElem?
  intro k
  by_cases hk : k < 30
  · have h1 := ha.len
    have h2 := hb.len
    rw [List.getElem?_eq_getElem (by omega), List.getElem?_eq_getElem (by omega)]
    congr 1
    apply Nat.eq_of_testBit_eq
    intro j
    have e1 : a.getD k 0 = a[k] := by rw [List.getD_eq_getElem?_getD, List.getElem?_eq_getElem (by omega)]; rfl
    have e2 : b.getD k 0 = b[k] := by rw [List.getD_eq_getElem?_getD, List.getElem?_eq_getElem (by omega)]; rfl
    by_cases hj : j < 8
    · have := h (8 * k + j) (by omega)
      unfold mem at this
      rw [show (8 * k + j) / 8 = k by omega, show (8 * k + j) % 8 = j by omega, e1, e2] at this
      exact this
    · rw [testBit_high (ha.byte _ (List.getElem_mem _)) (by omega), testBit_high (hb.byte _ (List.getElem_mem _)) (by omega)]
  · rw [List.getElem?_eq_none (by have := ha.len; omega), List.getElem?_eq_none (by have := hb.len; omega)]

theorem Set30.set {ns : List Nat} (h : Set30 ns) (i b : Nat) (hb : b < 256) : Set30 (ns.set i b) :=
  ⟨by rw [List.length_set]; exact h.len, fun x hx => by
    rcases List.mem_or_eq_of_mem_set hx with hx | rfl
    · exact h.byte x hx
    · exact hb⟩

theorem pow_lt {k : Nat} (h : k < 8) : 2 ^ k < 256 := by
  calc 2 ^ k ≤ 2 ^ 7 := Nat.pow_le_pow_right (by omega) (by omega)
    _ < 256 := by decide

theorem Set30.with {ns : List Nat} (h : Set30 ns) (n : Int) : Set30 (withP ns n) := by
  unfold withP
  split
  · exact h.set _ _ (Nat.or_lt_two_pow (n := 8) (h.getD_lt _) (pow_lt (by omega)))
  · exact h

theorem Set30.without {ns : List Nat} (h : Set30 ns) (n : Int) : Set30 (withoutP ns n) := by
  unfold withoutP
  split
  · exact h.set _ _ (Nat.lt_of_le_of_lt Nat.and_le_left (h.getD_lt _))
  · exact h

theorem Set30.both {s t : List Nat} (h : Set30 s) (h' : Set30 t) : Set30 (bothP s t) := by
  refine ⟨by simp [bothP, h.len, h'.len], fun b hb => ?_⟩
  unfold bothP at hb
  rw [List.mem_iff_getElem?] at hb
  obtain ⟨i, hi⟩ := hb
  rw [List.getElem?_zipWith] at hi
  cases h1 : s[i]? with
  | none => simp [h1] at hi
  | some x =>
    cases h2 : t[i]? with
    | none => simp [h1, h2] at hi
    | some y =>
      simp only [h1, h2, Option.some.injEq] at hi
      subst hi
      exact Nat.or_lt_two_pow (n := 8) (h.byte _ (List.mem_of_getElem? h1)) (h'.byte _ (List.mem_of_getElem? h2))

theorem getD_set {ns : List Nat} {i k b : Nat} (hk : k < ns.length) : (ns.set i b).getD k 0 = if i = k then b else ns.getD k 0 := by
  rw [List.getD_eq_getElem?_getD, List.getElem?_set]
  by_cases e : i = k
  · simp [e, hk]
  · simp [e, List.getD_eq_getElem?_getD]

theorem mem_with {ns : List Nat} (h : Set30 ns) {n : Int} {i : Nat} (hi : i < 240) : mem (withP ns n) i = (mem ns i || (inB n && decide (i = n.toNat))) := by
  unfold withP
  split
  · rename_i hn
    obtain ⟨h0, h1⟩ := inB_iff.1 hn
    unfold mem
    rw [getD_set (by rw [h.len]; omega)]
    split
    · rename_i e
      rw [Nat.testBit_or, Nat.testBit_two_pow, e, hn, Bool.true_and]
      congr 1
      apply decide_eq_decide.2
      omega
    · rename_i e
      have : decide (i = n.toNat) = false := decide_eq_false (by rintro rfl; exact e rfl)
      simp [this]
  · rename_i hn
    simp [hn]

theorem testBit_255 {k j : Nat} (hk : k < 8) (hj : j < 8) : (255 - 2 ^ k).testBit j = !decide (k = j) := by
  have key : ∀ k < 8, ∀ j < 8, (255 - 2 ^ k).testBit j = !decide (k = j) := by decide
  exact key k hk j hj

theorem mem_without {ns : List Nat} (h : Set30 ns) {n : Int} {i : Nat} (hi : i < 240) : mem (withoutP ns n) i = (mem ns i && !(inB n && decide (i = n.toNat))) := by
  unfold withoutP
  split
  · rename_i hn
    obtain ⟨h0, h1⟩ := inB_iff.1 hn
    unfold mem
    rw [getD_set (by rw [h.len]; omega)]
    split
    · rename_i e
      rw [Nat.testBit_and, testBit_255 (by omega) (by omega), e, hn, Bool.true_and]
      congr 2
      apply decide_eq_decide.2
      omega
    · rename_i e
      have : decide (i = n.toNat) = false := decide_eq_false (by rintro rfl; exact e rfl)
      simp [this]
  · rename_i hn
    simp [hn]

theorem bothK_len (s t : List Nat) (k : Nat) : (bothK s t k).length = s.length := by
  induction k with
  | zero => rfl
  | succ k ih => rw [bothK, List.length_set, ih]
theorem bothK_getD (s t : List Nat) (k : Nat) : k ≤ s.length → ∀ i, i < s.length → (bothK s t k).getD i 0 = if i < k then s.getD i 0 ||| t.getD i 0 else s.getD i 0 := by
  induction k with
  | zero => intro _ i _; simp [bothK]
  | succ k ih =>
    intro hk i hi
    rw [bothK, getD_set (by rw [bothK_len]; exact hi), ih (by omega) i hi, ih (by omega) k (by omega)]
    by_cases e : k = i
    · subst e; simp
    · rw [if_neg e]
      have e2 : (i < k + 1) = (i < k) := propext ⟨fun h => by omega, fun h => by omega⟩
      simp only [e2]
theorem bothK_all {s t : List Nat} (hs : Set30 s) (ht : Set30 t) : bothK s t 30 = bothP s t := by
  have h1 := hs.len
  have h2 := ht.len
  apply List.ext_getElem?
  intro i
  by_cases hi : i < 30
  · have h3 := bothK_getD s t 30 (by omega) i (by omega)
    rw [if_pos hi] at h3
    simp only [List.getD_eq_getElem?_getD] at h3
    unfold bothP
    rw [List.getElem?_zipWith]
    rw [List.getElem?_eq_getElem (by rw [bothK_len]; omega)] at h3 ⊢
    rw [List.getElem?_eq_getElem (by omega), List.getElem?_eq_getElem (by omega)] at h3 ⊢
    simpa using h3
  · rw [List.getElem?_eq_none (by rw [bothK_len]; omega), List.getElem?_eq_none (by simp [bothP]; omega)]
theorem Set30.bothK {s t : List Nat} (hs : Set30 s) (ht : Set30 t) (k : Nat) : Set30 (bothK s t k) := by
  induction k with
  | zero => exact hs
  | succ k ih => exact ih.set _ _ (Nat.or_lt_two_pow (n := 8) (ih.getD_lt _) (ht.getD_lt _))

theorem mem_both {s t : List Nat} (h : Set30 s) (h' : Set30 t) (i : Nat) (hi : i < 240) : mem (bothP s t) i = (mem s i || mem t i) := by
  unfold mem bothP
  rw [List.getD_eq_getElem?_getD, List.getElem?_zipWith, List.getD_eq_getElem?_getD, List.getD_eq_getElem?_getD]
  have h1 := h.len
  have h2 := h'.len
  rw [List.getElem?_eq_getElem (by omega), List.getElem?_eq_getElem (by omega)]
  simp

theorem cnt_zero (ns : List Nat) : cnt ns 0 = 0 := rfl
theorem cnt_succ (ns : List Nat) (k : Nat) : cnt ns (k + 1) = cnt ns k + if mem ns k then 1 else 0 := by
  unfold cnt
  rw [List.range_succ, List.filter_append, List.length_append]
  split <;> simp_all

theorem cnt_le (ns : List Nat) (k : Nat) : cnt ns k ≤ k := by
  unfold cnt
  exact Nat.le_trans (List.length_filter_le _ _) (by simp)

theorem cnt_congr {a b : List Nat} {k : Nat} (h : ∀ i, i < k → mem a i = mem b i) : cnt a k = cnt b k := by
  induction k with
  | zero => rfl
  | succ k ih => rw [cnt_succ, cnt_succ, ih (fun i hi => h i (by omega)), h k (by omega)]

theorem mem_lt {ns : List Nat} {i : Nat} (h : mem ns i = true) (hl : ns.length = 30) : i < 240 := by
  rcases Nat.lt_or_ge i 240 with h1 | h1
  · exact h1
  · unfold mem at h
    rw [List.getD_eq_getElem?_getD, List.getElem?_eq_none (by omega)] at h
    simp at h

theorem pop_le (b : Nat) : pop b ≤ 8 := by unfold pop; exact Nat.le_trans (List.length_filter_le _ _) (by simp)

theorem cnt_eight (ns : List Nat) (k : Nat) : cnt ns (8 * (k + 1)) = cnt ns (8 * k) + pop (ns.getD k 0) := by
  rw [show 8 * (k + 1) = 8 * k + 1 + 1 + 1 + 1 + 1 + 1 + 1 + 1 by omega]
  simp only [cnt_succ]
  unfold mem pop
  simp only [show (8 * k + 1 + 1 + 1 + 1 + 1 + 1 + 1) / 8 = k by omega, show (8 * k + 1 + 1 + 1 + 1 + 1 + 1) / 8 = k by omega, show (8 * k + 1 + 1 + 1 + 1 + 1) / 8 = k by omega,
    show (8 * k + 1 + 1 + 1 + 1) / 8 = k by omega, show (8 * k + 1 + 1 + 1) / 8 = k by omega, show (8 * k + 1 + 1) / 8 = k by omega, show (8 * k + 1) / 8 = k by omega, show (8 * k) / 8 = k by omega,
    show (8 * k + 1 + 1 + 1 + 1 + 1 + 1 + 1) % 8 = 7 by omega, show (8 * k + 1 + 1 + 1 + 1 + 1 + 1) % 8 = 6 by omega, show (8 * k + 1 + 1 + 1 + 1 + 1) % 8 = 5 by omega,
    show (8 * k + 1 + 1 + 1 + 1) % 8 = 4 by omega, show (8 * k + 1 + 1 + 1) % 8 = 3 by omega, show (8 * k + 1 + 1) % 8 = 2 by omega, show (8 * k + 1) % 8 = 1 by omega, show (8 * k) % 8 = 0 by omega]
  rw [show List.range 8 = [0, 1, 2, 3, 4, 5, 6, 7] from rfl]
  simp only [List.filter_cons, List.filter_nil]
  generalize ns.getD k 0 = b
  cases b.testBit 0 <;> cases b.testBit 1 <;> cases b.testBit 2 <;> cases b.testBit 3 <;> cases b.testBit 4 <;> cases b.testBit 5 <;> cases b.testBit 6 <;> cases b.testBit 7 <;> simp

theorem count_take (ns : List Nat) (k : Nat) (hk : k ≤ ns.length) : countP (ns.take k) = cnt ns (8 * k) := by
  induction k with
  | zero => rfl
  | succ k ih =>
    rw [cnt_eight, ← ih (by omega), List.take_succ_eq_append_getElem (by omega)]
    unfold countP
    rw [List.map_append, List.sum_append]
    simp [List.getElem?_eq_getElem (show k < ns.length by omega)]

/-- The count is that of the numbers that are in it. -/
theorem countP_eq {ns : List Nat} (h : Set30 ns) : countP ns = cnt ns 240 := by
  have := count_take ns 30 (by rw [h.len]; omega)
  rwa [List.take_of_length_le (by rw [h.len]; omega)] at this

theorem cnt_with_new {ns : List Nat} (h : Set30 ns) {i k : Nat} (hi : i < 240) (hm : mem ns i = false) (hk : k ≤ 240) : cnt (withP ns i) k = cnt ns k + if i < k then 1 else 0 := by
  induction k with
  | zero => rfl
  | succ k ih =>
    rw [cnt_succ, cnt_succ, ih (by omega), mem_with h (by omega), inB_nat hi, Bool.true_and, Int.toNat_natCast]
    by_cases e : k = i
    · subst e
      simp [hm]
    · have : decide (k = i) = false := decide_eq_false e
      rw [this, Bool.or_false]
      have e2 : (i < k + 1) = (i < k) := propext ⟨fun h => by omega, fun h => by omega⟩
      simp only [e2]; omega

theorem cnt_without_old {ns : List Nat} (h : Set30 ns) {i k : Nat} (hi : i < 240) (hm : mem ns i = true) (hk : k ≤ 240) : cnt (withoutP ns i) k + (if i < k then 1 else 0) = cnt ns k := by
  induction k with
  | zero => rfl
  | succ k ih =>
    have ih := ih (by omega)
    rw [cnt_succ, cnt_succ, mem_without h (by omega), inB_nat hi, Bool.true_and, Int.toNat_natCast]
    by_cases e : k = i
    · subst e
      rw [if_neg (by omega)] at ih
      simp [hm]; omega
    · have : decide (k = i) = false := decide_eq_false e
      rw [this]
      simp only [Bool.not_false, Bool.and_true]
      have e2 : (i < k + 1) = (i < k) := propext ⟨fun h => by omega, fun h => by omega⟩
      simp only [e2]; omega

theorem cnt_full {ns : List Nat} {k : Nat} (h : ∀ i, i < k → mem ns i = true) : cnt ns k = k := by
  induction k with
  | zero => rfl
  | succ k ih => rw [cnt_succ, ih (fun i hi => h i (by omega)), h k (by omega)]; rfl

end Go.Proofs.YtnlolhlbpdmljaaGreatDoor
