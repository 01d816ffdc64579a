/-
  Rows of numbers and of texts that are read; nodes in memory; node.Leaf, node.rising.
  Conditions: the keys rise.
-/
import Derived.Test.YtnlolhlbpdmljaaGreatDoorPgrF
namespace Go.Proofs.YtnlolhlbpdmljaaGreatDoor
open Go.ChangeShapes Go.WideShapes Go.RowKit
def ints (l : List Nat) : List Value := l.map (fun (k : Nat) => .int .i64 (k : Int))
def strs (l : List B8) : List Value := l.map (fun b => .string (strB b))
theorem ints_length (l : List Nat) : (ints l).length = l.length := by unfold ints; simp
theorem strs_length (l : List B8) : (strs l).length = l.length := by unfold strs; simp
theorem ints_at {l : List Nat} {i : Nat} (h : i < l.length) : (ints l)[i]? = some (.int .i64 (l[i] : Int)) := by unfold ints; simp [h]
theorem strs_at {l : List B8} {i : Nat} (h : i < l.length) : (strs l)[i]? = some (.string (strB l[i])) := by unfold strs; simp [h]
theorem ints_one (l : List Nat) : ∀ u ∈ ints l, u.oneCell' = true := by
  intro u hu; unfold ints at hu; rw [List.mem_map] at hu; obtain ⟨b, _, rfl⟩ := hu; rfl
theorem strs_one (l : List B8) : ∀ u ∈ strs l, u.oneCell' = true := by
  intro u hu; unfold strs at hu; rw [List.mem_map] at hu; obtain ⟨b, _, rfl⟩ := hu; rfl
theorem ints_append (l m : List Nat) : ints (l ++ m) = ints l ++ ints m := by unfold ints; simp
theorem strs_append (l m : List B8) : strs (l ++ m) = strs l ++ strs m := by unfold strs; simp
/-- The slice v reads as xs, out of a block of the type t. -/
def RowAt (w : World) (t : TypeId) (v : Value) (xs : List Value) : Prop := ∃ A c, v = .slice A xs.length c ∧ (xs ≠ [] → ∃ g o cs, A = some ⟨g, o, none⟩ ∧ w.heap[g]? = some (.cells cs t (0, 0)) ∧ ∀ j u, xs[j]? = some u → cs[o + j]? = some u)
theorem RowAt.nil (w : World) (t : TypeId) (A : Option Addr) (c : Nat) : RowAt w t (.slice A 0 c) [] := ⟨A, c, rfl, fun h => absurd rfl h⟩
theorem RowAt.below {w w' : World} {t : TypeId} {v : Value} {xs : List Value} (h : RowAt w t v xs) (b : Below w.heap.size w w') : RowAt w' t v xs := by
  obtain ⟨A, c, rfl, h2⟩ := h
  refine ⟨A, c, rfl, fun hx => ?_⟩
  obtain ⟨g, o, cs, h3, h4, h5⟩ := h2 hx
  exact ⟨g, o, cs, h3, (b.block g (row_lt h4)).trans h4, h5⟩
theorem RowAt.kt {w w' : World} {B : Nat} {T : TypeId → Bool} {t : TypeId} {v : Value} {xs : List Value} (h : RowAt w t v xs) (k : KT B T w w') (hT : T t = false) : RowAt w' t v xs := by
  obtain ⟨A, c, rfl, h2⟩ := h
  refine ⟨A, c, rfl, fun hx => ?_⟩
  obtain ⟨g, o, cs, h3, h4, h5⟩ := h2 hx
  exact ⟨g, o, cs, h3, k.cells h4 hT, h5⟩
theorem RowAt.own {w : World} {B t n : Nat} {v : Value} {xs : List Value} (h : w.ownsRow B t 1 v n xs) : RowAt w t v xs := by
  have hl := h.1
  rcases h.2 with ⟨rfl, h0⟩ | ⟨g, cap, cur, rfl, _, hh, hc1, hc2, hs, hcs⟩
  · have : xs = [] := List.eq_nil_of_length_eq_zero (by omega)
    subst this
    exact RowAt.nil _ _ _ _
  · have hn : xs.length = n := by omega
    subst hn
    refine ⟨_, _, rfl, fun _ => ⟨g, 0, cur, rfl, hh, fun j u hj => ?_⟩⟩
    rw [← hcs, List.getElem?_take] at hj
    split at hj
    · rw [Nat.zero_add, ← hj, Array.getElem?_toList]
    · cases hj
theorem RowAt.at {w : World} {t : TypeId} {A : Option Addr} {n c : Nat} {xs : List Value} (h : RowAt w t (.slice A n c) xs) : n = xs.length ∧ ∀ j u, xs[j]? = some u → ∃ g o, A = some ⟨g, o, none⟩ ∧ w.cell? ⟨g, o + j, none⟩ = some u ∧ g < w.heap.size := by
  obtain ⟨A', c', e, h2⟩ := h
  injection e with e1 e2 e3
  subst e1
  refine ⟨e2, fun j u hj => ?_⟩
  obtain ⟨g, o, cs, h3, h4, h5⟩ := h2 (fun e => by subst e; simp at hj)
  exact ⟨g, o, h3, by rw [cell_of_row w g _ cs t (0, 0) h4]; exact h5 j u hj, row_lt h4⟩
theorem RowAt.shape {w : World} {t : TypeId} {v : Value} {xs : List Value} (h : RowAt w t v xs) : ∃ A c, v = .slice A xs.length c := by
  obtain ⟨A, c, e, _⟩ := h; exact ⟨A, c, e⟩
/-- A part of a row. -/
theorem RowAt.part {w : World} {t : TypeId} {g o n c : Nat} {xs : List Value} (h : RowAt w t (.slice (some ⟨g, o, none⟩) n c) xs) (a k c' : Nat) (hk : a + k ≤ xs.length) : RowAt w t (.slice (some ⟨g, o + a, none⟩) k c') ((xs.drop a).take k) := by
  have hl : ((xs.drop a).take k).length = k := by simp; omega
  obtain ⟨A', c0, e, h2⟩ := h
  injection e with e1 e2 e3
  refine ⟨some ⟨g, o + a, none⟩, c', by rw [hl], fun hx => ?_⟩
  have hne : xs ≠ [] := fun e => by subst e; simp at hx
  obtain ⟨g', o', cs, h3, h4, h5⟩ := h2 hne
  rw [← e1] at h3
  injection h3 with h3
  injection h3 with h3a h3b h3c
  subst h3a h3b
  refine ⟨g, o + a, cs, rfl, h4, fun j u hj => ?_⟩
  rw [List.getElem?_take] at hj
  split at hj
  · rw [List.getElem?_drop] at hj
    have := h5 (a + j) u hj
    rwa [show o + a + j = o + (a + j) by omega]
  · cases hj
structure PN where
  keys : List Nat
  vals : List B8
  kids : List Nat
/-- The node n, as a value. -/
def NAt (w : World) (v : Value) (n : PN) : Prop := ∃ sK sV sC, v = .agg #[sK, sV, sC] ∧ RowAt w 3 sK (ints n.keys) ∧ RowAt w 9 sV (strs n.vals) ∧ RowAt w 3 sC (ints n.kids)
theorem NAt.below {w w' : World} {v : Value} {n : PN} (h : NAt w v n) (b : Below w.heap.size w w') : NAt w' v n := by
  obtain ⟨a, b', c, e, h1, h2, h3⟩ := h
  exact ⟨a, b', c, e, h1.below b, h2.below b, h3.below b⟩
theorem NAt.kt {w w' : World} {B : Nat} {v : Value} {n : PN} (h : NAt w v n) (k : KT B isPg w w') : NAt w' v n := by
  obtain ⟨a, b', c, e, h1, h2, h3⟩ := h
  exact ⟨a, b', c, e, h1.kt k rfl, h2.kt k rfl, h3.kt k rfl⟩
def KeysOk (l : List Nat) : Prop := l.length ≤ 7 ∧ (∀ k ∈ l, k ≤ 4294967295) ∧ List.Pairwise (· < ·) l
structure NRight (n : PN) : Prop where
  keys : KeysOk n.keys
  shape : (n.kids = [] ∧ n.vals.length = n.keys.length ∧ ∀ v ∈ n.vals, v.length = 12) ∨ (n.vals = [] ∧ 1 ≤ n.keys.length ∧ n.kids.length = n.keys.length + 1 ∧ (∀ k ∈ n.kids, 2 ≤ k ∧ k < 240) ∧ n.kids.Nodup)
set_option maxHeartbeats 400000 in
theorem leaf_any (w : World) (v : Value) (n : PN) (h : NAt w v n) : Calls Tryz.prog 54 #[v] w fun e w' => e = .returned (.bool (decide (n.kids.length = 0))) ∧ Below w.heap.size w w' := by
  obtain ⟨sK, sV, sC, rfl, h1, h2, h3⟩ := h
  obtain ⟨A1, c1, rfl⟩ := h1.shape
  obtain ⟨A2, c2, rfl⟩ := h2.shape
  obtain ⟨A3, c3, rfl⟩ := h3.shape
  have HB := Lib.hid (fun o => (Below.refl w.heap.size w).alloc (Nat.le_refl _) o)
  have e := ints_length n.kids
  clear h1 h2 h3
  by_cases hz : n.kids.length = 0
  · have HZ := Lib.hid hz
    go_enter Tryz.func54, Tryz.ntmps54
    go_wp2
    go_ret
    exact ⟨by rw [decide_eq_true HZ.out]; rfl, HB.out _⟩
  · have HZ := Lib.hid hz
    have HN := Lib.hid (show ((n.kids.length : Int) == 0) = false by rw [beq_eq_false_iff_ne]; omega)
    go_enter Tryz.func54, Tryz.ntmps54
    go_wp2
    go_ret
    refine ⟨?_, HB.out _⟩
    rw [decide_eq_false HZ.out]
    show Ending.returned (.bool ((n.kids.length : Int) == 0)) = _
    rw [HN.out]
set_option maxRecDepth 100000 in
set_option maxHeartbeats 1000000 in
theorem rising_any (w : World) (v : Value) (l : List Nat) (h : RowAt w 3 v (ints l)) (hl : KeysOk l) : Calls Tryz.prog 109 #[v] w fun e w' => e = .returned (.bool true) ∧ w = w' := by
  obtain ⟨A, c, rfl⟩ := h.shape
  have hAT := h.at.2
  have AT := Lib.hid hAT
  rw [ints_length] at *
  have h7 := hl.1
  have HL := Lib.hid hl
  have h7d : decide ((l.length : Int) ≤ 7) = true := decide_eq_true (by omega)
  clear h hAT hl
  go_enter Tryz.func109, Tryz.ntmps109
  go_wp2_with fail
  go_loopw [7] (fun i' wr => ∃ k : Nat, i' = .int .i64 k ∧ k ≤ l.length ∧ w = wr) (fun i' _ => l.length - (intOf i').toNat)
  case atStart => exact ⟨0, rfl, by omega, rfl⟩
  case round =>
    obtain ⟨k, rfl, hk, rfl⟩ := hrel
    by_cases hlt : k < l.length
    · obtain ⟨g, o, rfl, hck, _⟩ := AT.out k _ (ints_at hlt)
      obtain ⟨x, hx⟩ : ∃ x, x = l[k] := ⟨_, rfl⟩
      rw [← hx] at hck
      have hx1 : ¬ (4294967295 : Int) < (x : Int) := by have := HL.out.2.1 x (by rw [hx]; exact List.getElem_mem _); omega
      have hx0 : ¬ (x : Int) < 0 := by omega
      by_cases h0 : k = 0
      · have hk0 : ¬ (0 : Int) < (k : Int) := by omega
        have HLT := Lib.hid hlt
        clear hx
        subst h0
        rw [Nat.add_zero] at hck
        go_wp2
        go_roundw
        case rel => exact ⟨0 + 1, by go_num, HLT.out, trivial⟩
        case measure => have := HLT.out; simp [intOf]; omega
      · obtain ⟨q, rfl⟩ : ∃ q, k = q + 1 := ⟨k - 1, by omega⟩
        obtain ⟨g', o', e', hcq, _⟩ := AT.out q _ (ints_at (by omega))
        injection e' with e'
        injection e' with e1 e2 _
        subst e1 e2
        obtain ⟨y, hy⟩ : ∃ y, y = l[q]'(by omega) := ⟨_, rfl⟩
        rw [← hy] at hcq
        have hyx : ¬ (x : Int) ≤ (y : Int) := by
          have := List.pairwise_iff_getElem.1 HL.out.2.2 q (q + 1) (by omega) hlt (by omega)
          rw [← hx, ← hy] at this
          omega
        have HLT := Lib.hid hlt
        have hk0 : (0 : Int) < ((q + 1 : Nat) : Int) := by omega
        clear hx hy
        go_wp2
        go_roundw
        case rel => exact ⟨q + 2, by go_num, HLT.out, trivial⟩
        case measure => have := HLT.out; simp [intOf]; omega
    · have hkl : k = l.length := by omega
      subst hkl
      go_wp2
      go_ret
      exact ⟨rfl, rfl⟩
end Go.Proofs.YtnlolhlbpdmljaaGreatDoor
