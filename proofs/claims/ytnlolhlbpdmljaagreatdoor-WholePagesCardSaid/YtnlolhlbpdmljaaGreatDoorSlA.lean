/-
  slices.BinarySearch and slices.Insert, by the shelf's contracts, in this seat's words.
  Conditions: the slice rises; the place is within it.
-/
import Derived.Test.YtnlolhlbpdmljaaGreatDoorNodH
import Derived.Test.YtnlolhlbpdmljaaGreatDoorShelf
namespace Go.Proofs.YtnlolhlbpdmljaaGreatDoor
open Go.ChangeShapes Go.WideShapes Go.RowKit
theorem drewN_below (w : World) (q : Nat) : Below w.heap.size w (w.drewN q) := below_drewN (Below.refl _ _) q
/-- How many keys are less. -/
def lessN (l : List Nat) (x : Nat) : Nat := l.countP (· < x)
theorem bin_any (w : World) (v : Value) (l : List Nat) (x : Nat) (h : RowAt w 3 v (ints l)) (hl : KeysOk l) : Calls Tryz.prog 85 #[v, .int .i64 (x : Int)] w fun e w' => e = .returned (.tuple #[.int .i64 (lessN l x : Int), .bool (decide (x ∈ l))]) ∧ Below w.heap.size w w' := by
  obtain ⟨A, c, rfl⟩ := h.shape
  have hAT := h.at.2
  rw [ints_length]
  have h7 := hl.1
  have e1 : (l.map (fun k : Nat => (k : Int))).countP (· < (x : Int)) = lessN l x := by
    unfold lessN
    rw [List.countP_map]
    congr 1
    funext k
    simp
  have e2 : (l.map (fun k : Nat => (k : Int))).contains (x : Int) = decide (x ∈ l) := by
    rw [Bool.eq_iff_iff, List.contains_iff_mem, decide_eq_true_eq, List.mem_map]
    constructor
    · rintro ⟨k, hk, e⟩; have : k = x := by omega
      subst this; exact hk
    · intro hx; exact ⟨x, hx, rfl⟩
  by_cases hz : l.length = 0
  · have : l = [] := List.eq_nil_of_length_eq_zero hz
    subst this
    refine (Any.slices_BinarySearch_int_empty Tryz.layBin A c (x : Int) w).mono ?_
    rintro e w' ⟨rfl, rfl⟩
    exact ⟨rfl, Below.refl _ _⟩
  · obtain ⟨g, o, rfl, _, _⟩ := hAT 0 _ (ints_at (by omega))
    have hc := Any.slices_BinarySearch_int Tryz.layBin g o l.length c (l.map (fun k : Nat => (k : Int))) (x : Int) w (by rw [List.length_map]; exact Nat.le_refl _) (by omega) (fun j hj => by
      rw [List.length_map] at hj
      obtain ⟨g', o', e, hc, _⟩ := hAT j _ (ints_at hj)
      injection e with e
      injection e with ea eb _
      rw [ea, eb, hc]
      rw [List.getD_eq_getElem?_getD, List.getElem?_map, List.getElem?_eq_getElem hj]
      rfl) (by
      rw [List.take_of_length_le (by rw [List.length_map]; exact Nat.le_refl _)]
      refine List.pairwise_map.2 (hl.2.2.imp (fun h => ?_))
      omega)
    rw [List.take_of_length_le (by rw [List.length_map]; exact Nat.le_refl _), e1, e2] at hc
    refine hc.mono ?_
    rintro e w' ⟨rfl, q, rfl⟩
    exact ⟨rfl, drewN_below w q⟩
theorem shape_row {w : World} {g : Nat} {cs : Array Value} {t : TypeId} (h : w.heap[g]? = some (.cells cs t (0, 0))) : w.shape? g = some (t, cs.size) := by simp [World.shape?, h]
theorem grownCap_max (w : World) (n old : Nat) (e : TypeId) (h : n ≤ 100) : grownCap w n old e ≤ maxLen := grownCap_le_maxLen w n old e (by unfold maxLen; omega)
theorem list_split {xs : List Value} {i : Nat} {u : Value} {L : List Value} {n : Nat} (hx : L.take n = xs) (hl : xs.length = n) (hi : i ≤ n) : ((L.take i ++ [u] ++ (xs.drop i ++ L.drop (n + 1)))).take (n + 1) = xs.take i ++ u :: xs.drop i := by
  have h1 : L.take i = xs.take i := by rw [← hx, List.take_take, Nat.min_eq_left hi]
  rw [h1]
  have h2 : (xs.take i ++ [u] ++ xs.drop i).length = n + 1 := by simp; omega
  rw [← List.append_assoc, List.take_left' h2]
  simp
theorem setCells_kept' (w : World) (g o : Nat) (vs : List Value) {n c : Nat} : Kept (fun q => (Value.slice (some ⟨g, 0, none⟩) n c).ownBlock = some q) w (w.setCells g o vs) := by
  have h := setCells_kept w g o vs
  exact ⟨h.os, h.tape, h.output, h.size, fun k hk hne => h.block k hk (fun e => hne (by rw [e]; rfl))⟩

set_option maxHeartbeats 1000000 in
theorem insI_any (w : World) (B n i h : Nat) (v u : Value) (xs : List Value) (hown : w.ownsRow B 3 1 v n xs) (hi : i ≤ n) (hn : n ≤ 50) (hX : w.heap[h]? = some (.cells #[u] 3 (0, 0))) (hne : v.ownBlock ≠ some h) (hB : B ≤ w.heap.size) (h1 : ∀ x ∈ xs, x.oneCell' = true) (hu : u.oneCell' = true) :
    Calls Tryz.prog 56 #[v, .int .i64 (i : Int), .slice (some ⟨h, 0, none⟩) 1 1] w fun e w' => ∃ v', e = .returned v' ∧ w'.ownsRow B 3 1 v' (n + 1) (xs.take i ++ u :: xs.drop i) ∧ Kept (fun q => v.ownBlock = some q) w w' ∧ (v'.ownBlock = v.ownBlock ∨ v'.ownBlock = some w.heap.size) := by
  have hlx := hown.1
  rw [Nat.mul_one] at hlx
  have hvs : ∀ j y, ([u] : List Value)[j]? = some y → w.cell? ⟨h, 0 + j, none⟩ = some y := by
    intro j y hj
    rw [cell_of_row w h _ _ 3 (0, 0) hX, Nat.zero_add]
    cases j with
    | zero => simpa using hj
    | succ j => simp at hj
  have hv1 : ∀ y ∈ ([u] : List Value), y.oneCell' = true := by simpa using hu
  have rowlen : (xs.take i ++ u :: xs.drop i).length = (n + 1) * 1 := by simp; omega
  have fresh : ∀ (cap : Nat) (L : List Value) (W' : World), W'.heap[w.heap.size]? = some (.cells L.toArray 3 (0, 0)) → n + 1 ≤ cap → cap ≤ maxLen → L.length = cap → L.take (n + 1) = xs.take i ++ u :: xs.drop i → W'.ownsRow B 3 1 (.slice (some ⟨w.heap.size, 0, none⟩) (n + 1) cap) (n + 1) (xs.take i ++ u :: xs.drop i) := by
    intro cap L W' hh h1 h2 h3 h4
    exact ⟨rowlen, .inr ⟨w.heap.size, cap, L.toArray, rfl, hB, hh, h1, h2, by simpa using h3, by simpa using h4⟩⟩
  rcases hown.2 with ⟨rfl, rfl⟩ | ⟨g, cap, cur, rfl, hBg, hg, hnc, hcm, hcs, hct⟩
  · -- the nil slice
    have hx0 : xs = [] := List.eq_nil_of_length_eq_zero hlx
    have hi0 : i = 0 := by omega
    subst hx0 hi0
    have hc := Any2.slices_Insert_int_end_grow Tryz.layInsI none 0 0 h 0 1 1 [] [u] w (by omega) (by omega) (by omega) (by decide) rfl rfl (fun _ => rfl) (fun a e => by cases e) hvs hv1
    rw [show Tryz.layInsI_ren.t 3 = 3 from rfl] at hc
    refine hc.mono ?_
    rintro e w' ⟨rfl, rfl⟩
    refine ⟨_, rfl, fresh _ ((([] ++ [u] : List Value).toArray ++ Builtin.zeroCells (Value.int .i64 0).cells (grownCap w (0 + 1) 0 3 - (0 + 1))).toList) _ ?_ (grownCap_ge _ _ _ _) (grownCap_max _ _ _ _ (by omega)) ?_ ?_, ?_, .inr rfl⟩
    · exact heap_alloc_new w.drew _
    · have := grownCap_ge w 1 0 3
      simp [size_zeroCells, Value.cells]; omega
    · simp
    · exact ⟨rfl, rfl, rfl, by simp, fun k hk _ => Below.heap_alloc w.drew _ _ hk⟩
  · have hcl : cur.size = cap := by omega
    have hL : cur = cur.toList.toArray := by simp
    obtain ⟨L, hLL⟩ : ∃ L, L = cur.toList := ⟨_, rfl⟩
    rw [hL, ← hLL] at hg
    have hLl : L.length = cap := by rw [hLL, Array.length_toList, hcl]
    rw [Nat.mul_one, ← hLL] at hct
    have hgh : h ≠ g := fun e => hne (by rw [e]; rfl)
    have hcell : ∀ j y, xs[j]? = some y → w.cell? ⟨g, 0 + j, none⟩ = some y := by
      intro j y hj
      rw [cell_of_row w g _ _ 3 (0, 0) hg, Nat.zero_add, List.getElem?_toArray]
      rw [← hct, List.getElem?_take] at hj
      split at hj
      · exact hj
      · cases hj
    have hsome : ∀ j, j < cap → (w.cell? ⟨g, 0 + j, none⟩).isSome = true := by
      intro j hj
      rw [cell_of_row w g _ _ 3 (0, 0) hg, Nat.zero_add, List.getElem?_toArray, List.getElem?_eq_getElem (by omega)]; rfl
    by_cases hroom : n + 1 ≤ cap
    · have stay : ∀ (L' : List Value) (W' : World), W'.heap[g]? = some (.cells L'.toArray 3 (0, 0)) → L'.length = cap → L'.take (n + 1) = xs.take i ++ u :: xs.drop i → W'.ownsRow B 3 1 (.slice (some ⟨g, 0, none⟩) (n + 1) cap) (n + 1) (xs.take i ++ u :: xs.drop i) := by
        intro L' W' hh h3 h4
        exact ⟨rowlen, .inr ⟨g, cap, L'.toArray, rfl, hBg, hh, hroom, hcm, by simpa using h3, by simpa using h4⟩⟩
      by_cases hin : i = n
      · subst hin
        have hc63 : cap ≤ 9223372036854775807 := by unfold maxLen at hcm; omega
        refine (Any2.slices_Insert_int_end_room Tryz.layInsI g 0 i cap h 0 1 1 [u] w (by omega) hroom hc63 rfl (fun j hj => by
          rw [show 0 + i + j = 0 + (i + j) by omega]; exact hsome _ (by omega)) (fun j _ => frozen_of_row w g _ _ 3 hg) hvs hv1).mono ?_
        rintro e w' ⟨rfl, rfl⟩
        refine ⟨_, rfl, stay (L.take i ++ [u] ++ L.drop (i + 1)) _ ?_ (by simp; omega) ?_, setCells_kept' w g _ _, .inl rfl⟩
        · rw [Nat.zero_add]; exact setCells_exact [u] i w L (by simp; omega) hg
        · have := list_split (u := u) hct hlx (Nat.le_refl i)
          rw [List.drop_eq_nil_of_le (by omega), List.nil_append] at this
          exact this.trans (by rw [List.drop_eq_nil_of_le (by omega)])
      · have hc63 : cap ≤ 9223372036854775807 := by unfold maxLen at hcm; omega
        refine (Any2.slices_Insert_int_shift Tryz.layInsI g 0 n cap i h 0 1 1 xs [u] w (by omega) (by omega) hroom hc63 hgh hlx rfl hcell (fun j hj => hsome j (by omega)) (fun j _ => frozen_of_row w g _ _ 3 hg) hvs h1 hv1 3 3 1 L.length (shape_row hX) (by rw [shape_row hg]; simp) (by omega) (frozen_of_row w h _ _ 3 hX) (frozen_of_row w h _ _ 3 hX)).mono ?_
        rintro e w' ⟨rfl, rfl⟩
        have s1 := setCells_exact (xs.drop i) (i + 1) w.drew L (by simp; omega) hg
        have e1 : i + 1 + (xs.drop i).length = n + 1 := by simp; omega
        rw [e1] at s1
        have s2 := setCells_exact [u] i (w.drew.setCells g (i + 1) (xs.drop i)) _ (by simp; omega) s1
        have e2 : (L.take (i + 1) ++ xs.drop i ++ L.drop (n + 1)).take i ++ [u] ++ (L.take (i + 1) ++ xs.drop i ++ L.drop (n + 1)).drop (i + [u].length) = L.take i ++ [u] ++ (xs.drop i ++ L.drop (n + 1)) := by
          have l1 : (L.take (i + 1)).length = i + 1 := by simp; omega
          rw [List.append_assoc (L.take (i + 1)), List.take_append_of_le_length (by omega), List.take_take, Nat.min_eq_left (by omega)]
          show _ ++ (L.take (i + 1) ++ (xs.drop i ++ L.drop (n + 1))).drop (i + 1) = _
          rw [List.drop_left' l1]
        rw [e2] at s2
        refine ⟨_, rfl, stay _ _ (by rw [Nat.zero_add, Nat.zero_add]; exact s2) (by simp; omega) (list_split hct hlx hi), ?_, .inl rfl⟩
        have kk := (setCells_kept' w.drew g (0 + (i + 1)) (xs.drop i) (n := n) (c := cap)).trans (setCells_kept' (w.drew.setCells g (0 + (i + 1)) (xs.drop i)) g (0 + i) [u] (n := n) (c := cap)) (fun _ _ h => h) (fun _ _ h => h) (U := fun q => (Value.slice (some ⟨g, 0, none⟩) n cap).ownBlock = some q)
        exact ⟨kk.os, kk.tape, kk.output, kk.size, kk.block⟩
    · have hnc' : n = cap := by omega
      by_cases hin : i = n
      · subst hin
        have hc := Any2.slices_Insert_int_end_grow Tryz.layInsI (some ⟨g, 0, none⟩) i cap h 0 1 1 xs [u] w (by omega) hnc (by omega) (by omega) hlx rfl (fun e => by cases e) (fun a e j y hj => by
          injection e with e
          rw [← e, addr_add]
          have := hcell j y hj
          rwa [Nat.zero_add] at this) hvs hv1
        rw [show Tryz.layInsI_ren.t 3 = 3 from rfl] at hc
        refine hc.mono ?_
        rintro e w' ⟨rfl, rfl⟩
        refine ⟨_, rfl, fresh _ (((xs ++ [u] : List Value).toArray ++ Builtin.zeroCells (Value.int .i64 0).cells (grownCap w (i + 1) cap 3 - (i + 1))).toList) _ ?_ (grownCap_ge _ _ _ _) (grownCap_max _ _ _ _ (by omega)) ?_ ?_, ?_, .inr rfl⟩
        · exact heap_alloc_new w.drew _
        · have := grownCap_ge w (i + 1) cap 3
          simp [size_zeroCells, Value.cells]; omega
        · rw [Array.toList_append, List.take_left' (by simp; omega)]
          rw [List.take_of_length_le (by omega), List.drop_eq_nil_of_le (by omega)]
        · exact ⟨rfl, rfl, rfl, by simp, fun k hk _ => Below.heap_alloc w.drew _ _ hk⟩
      · have hc := Any2.slices_Insert_int_grow Tryz.layInsI g 0 n cap i h 0 1 1 xs [u] w (by omega) (by omega) hnc (by omega) (by omega) hlx rfl hcell hvs h1 hv1
        rw [show Tryz.layInsI_ren.t 3 = 3 from rfl] at hc
        refine hc.mono ?_
        rintro e w' ⟨rfl, rfl⟩
        obtain ⟨gc, hgc⟩ : ∃ gc, gc = grownCap w (n + 1) cap 3 := ⟨_, rfl⟩
        have hge := grownCap_ge w (n + 1) cap 3
        have hmx := grownCap_max w (n + 1) cap 3 (by omega)
        rw [← hgc] at hge hmx
        obtain ⟨L0, hL0⟩ : ∃ L0, L0 = ((xs.take i).toArray ++ Builtin.zeroCells (Value.int .i64 0).cells (n + 1 - i) ++ Builtin.zeroCells (Value.int .i64 0).cells (gc - (n + 1))).toList := ⟨_, rfl⟩
        have hl0 : L0.length = gc := by rw [hL0]; simp [size_zeroCells, Value.cells]; omega
        have ht0 : L0.take i = xs.take i := by
          rw [hL0, Array.toList_append, Array.toList_append, List.append_assoc, List.take_left' (by simp; omega)]
        obtain ⟨W1, hW1⟩ : ∃ W1, W1 = (w.alloc (.cells L0.toArray 3)).drew := ⟨_, rfl⟩
        have r1 : W1.heap[w.heap.size]? = some (.cells L0.toArray 3 (0, 0)) := by rw [hW1]; exact heap_alloc_new w _
        have s1 := setCells_exact [u] i W1 L0 (by simp; omega) r1
        obtain ⟨W2, hW2⟩ : ∃ W2, W2 = (W1.setCells w.heap.size i [u]).drew := ⟨_, rfl⟩
        have r2 : W2.heap[w.heap.size]? = some (.cells (L0.take i ++ [u] ++ L0.drop (i + [u].length)).toArray 3 (0, 0)) := by rw [hW2]; exact s1
        have s2 := setCells_exact (xs.drop i) (i + 1) W2 _ (by simp; omega) r2
        have e2 : (L0.take i ++ [u] ++ L0.drop (i + [u].length)).take (i + 1) ++ xs.drop i ++ (L0.take i ++ [u] ++ L0.drop (i + [u].length)).drop (i + 1 + (xs.drop i).length) = (xs.take i ++ u :: xs.drop i) ++ L0.drop (n + 1) := by
          have l1 : (L0.take i ++ [u]).length = i + 1 := by simp; omega
          rw [List.take_left' l1, show i + 1 + (xs.drop i).length = (i + 1) + (n - i) by simp; omega, ← List.drop_drop, List.drop_left' l1]
          rw [ht0, List.drop_drop]
          have : i + [u].length + (n - i) = n + 1 := by simp; omega
          rw [this]; simp
        rw [e2] at s2
        refine ⟨_, rfl, fresh gc _ (W2.setCells w.heap.size (i + 1) (xs.drop i)) s2 hge hmx (by simp; omega) (List.take_left' (by simp; omega)) |> fun r => ?_, ?_, .inr rfl⟩
        · have hw : (((w.alloc (.cells ((xs.take i).toArray ++ Builtin.zeroCells (Value.int .i64 0).cells (n + 1 - i) ++ Builtin.zeroCells (Value.int .i64 0).cells (grownCap w (n + 1) cap 3 - (n + 1))) 3)).drew.setCells w.heap.size i [u]).drew).setCells w.heap.size (i + 1) (xs.drop i) = W2.setCells w.heap.size (i + 1) (xs.drop i) := by
            rw [hW2, hW1, hL0, hgc]
          have hgc' := hgc
          rw [hgc] at r
          exact hw ▸ r
        · have k1 : Kept (fun q => q = w.heap.size) w.drew ((w.alloc (.cells ((xs.take i).toArray ++ Builtin.zeroCells (Value.int .i64 0).cells (n + 1 - i) ++ Builtin.zeroCells (Value.int .i64 0).cells (grownCap w (n + 1) cap 3 - (n + 1))) 3)).drew) := ⟨rfl, rfl, rfl, by simp, fun k hk _ => Below.heap_alloc w _ _ hk⟩
          have k2 := (k1.trans (setCells_kept _ w.heap.size i [u]) (fun _ _ h => h) (fun _ _ h => h) (U := fun q => q = w.heap.size))
          obtain ⟨W3, hW3⟩ : ∃ W3, W3 = ((w.alloc (.cells ((xs.take i).toArray ++ Builtin.zeroCells (Value.int .i64 0).cells (n + 1 - i) ++ Builtin.zeroCells (Value.int .i64 0).cells (grownCap w (n + 1) cap 3 - (n + 1))) 3)).drew.setCells w.heap.size i [u]).drew := ⟨_, rfl⟩
          have k2' : Kept (fun q => q = w.heap.size) w W3 := by rw [hW3]; exact ⟨k2.os, k2.tape, k2.output, k2.size, k2.block⟩
          have k3 := (k2'.trans (setCells_kept W3 w.heap.size (i + 1) (xs.drop i)) (fun _ _ h => h) (fun _ _ h => h) (U := fun q => q = w.heap.size))
          rw [hW3] at k3
          exact ⟨k3.os, k3.tape, k3.output, k3.size, fun k hk _ => k3.block k hk (by omega)⟩

set_option maxHeartbeats 1000000 in
theorem insS_any (w : World) (B n i h : Nat) (v u : Value) (xs : List Value) (hown : w.ownsRow B 9 1 v n xs) (hi : i ≤ n) (hn : n ≤ 50) (hX : w.heap[h]? = some (.cells #[u] 9 (0, 0))) (hne : v.ownBlock ≠ some h) (hB : B ≤ w.heap.size) (h1 : ∀ x ∈ xs, x.oneCell' = true) (hu : u.oneCell' = true) :
    Calls Tryz.prog 57 #[v, .int .i64 (i : Int), .slice (some ⟨h, 0, none⟩) 1 1] w fun e w' => ∃ v', e = .returned v' ∧ w'.ownsRow B 9 1 v' (n + 1) (xs.take i ++ u :: xs.drop i) ∧ Kept (fun q => v.ownBlock = some q) w w' ∧ (v'.ownBlock = v.ownBlock ∨ v'.ownBlock = some w.heap.size) := by
  have hlx := hown.1
  rw [Nat.mul_one] at hlx
  have hvs : ∀ j y, ([u] : List Value)[j]? = some y → w.cell? ⟨h, 0 + j, none⟩ = some y := by
    intro j y hj
    rw [cell_of_row w h _ _ 9 (0, 0) hX, Nat.zero_add]
    cases j with
    | zero => simpa using hj
    | succ j => simp at hj
  have hv1 : ∀ y ∈ ([u] : List Value), y.oneCell' = true := by simpa using hu
  have rowlen : (xs.take i ++ u :: xs.drop i).length = (n + 1) * 1 := by simp; omega
  have fresh : ∀ (cap : Nat) (L : List Value) (W' : World), W'.heap[w.heap.size]? = some (.cells L.toArray 9 (0, 0)) → n + 1 ≤ cap → cap ≤ maxLen → L.length = cap → L.take (n + 1) = xs.take i ++ u :: xs.drop i → W'.ownsRow B 9 1 (.slice (some ⟨w.heap.size, 0, none⟩) (n + 1) cap) (n + 1) (xs.take i ++ u :: xs.drop i) := by
    intro cap L W' hh h1 h2 h3 h4
    exact ⟨rowlen, .inr ⟨w.heap.size, cap, L.toArray, rfl, hB, hh, h1, h2, by simpa using h3, by simpa using h4⟩⟩
  rcases hown.2 with ⟨rfl, rfl⟩ | ⟨g, cap, cur, rfl, hBg, hg, hnc, hcm, hcs, hct⟩
  · -- the nil slice
    have hx0 : xs = [] := List.eq_nil_of_length_eq_zero hlx
    have hi0 : i = 0 := by omega
    subst hx0 hi0
    have hc := Any2.slices_Insert_string_end_grow Tryz.layInsS none 0 0 h 0 1 1 [] [u] w (by omega) (by omega) (by omega) (by decide) rfl rfl (fun _ => rfl) (fun a e => by cases e) hvs hv1
    rw [show Tryz.layInsS_ren.t 9 = 9 from rfl] at hc
    refine hc.mono ?_
    rintro e w' ⟨rfl, rfl⟩
    refine ⟨_, rfl, fresh _ ((([] ++ [u] : List Value).toArray ++ Builtin.zeroCells (Value.string ⟨#[]⟩).cells (grownCap w (0 + 1) 0 9 - (0 + 1))).toList) _ ?_ (grownCap_ge _ _ _ _) (grownCap_max _ _ _ _ (by omega)) ?_ ?_, ?_, .inr rfl⟩
    · exact heap_alloc_new w.drew _
    · have := grownCap_ge w 1 0 9
      simp [size_zeroCells, Value.cells]; omega
    · simp
    · exact ⟨rfl, rfl, rfl, by simp, fun k hk _ => Below.heap_alloc w.drew _ _ hk⟩
  · have hcl : cur.size = cap := by omega
    have hL : cur = cur.toList.toArray := by simp
    obtain ⟨L, hLL⟩ : ∃ L, L = cur.toList := ⟨_, rfl⟩
    rw [hL, ← hLL] at hg
    have hLl : L.length = cap := by rw [hLL, Array.length_toList, hcl]
    rw [Nat.mul_one, ← hLL] at hct
    have hgh : h ≠ g := fun e => hne (by rw [e]; rfl)
    have hcell : ∀ j y, xs[j]? = some y → w.cell? ⟨g, 0 + j, none⟩ = some y := by
      intro j y hj
      rw [cell_of_row w g _ _ 9 (0, 0) hg, Nat.zero_add, List.getElem?_toArray]
      rw [← hct, List.getElem?_take] at hj
      split at hj
      · exact hj
      · cases hj
    have hsome : ∀ j, j < cap → (w.cell? ⟨g, 0 + j, none⟩).isSome = true := by
      intro j hj
      rw [cell_of_row w g _ _ 9 (0, 0) hg, Nat.zero_add, List.getElem?_toArray, List.getElem?_eq_getElem (by omega)]; rfl
    by_cases hroom : n + 1 ≤ cap
    · have stay : ∀ (L' : List Value) (W' : World), W'.heap[g]? = some (.cells L'.toArray 9 (0, 0)) → L'.length = cap → L'.take (n + 1) = xs.take i ++ u :: xs.drop i → W'.ownsRow B 9 1 (.slice (some ⟨g, 0, none⟩) (n + 1) cap) (n + 1) (xs.take i ++ u :: xs.drop i) := by
        intro L' W' hh h3 h4
        exact ⟨rowlen, .inr ⟨g, cap, L'.toArray, rfl, hBg, hh, hroom, hcm, by simpa using h3, by simpa using h4⟩⟩
      by_cases hin : i = n
      · subst hin
        have hc63 : cap ≤ 9223372036854775807 := by unfold maxLen at hcm; omega
        refine (Any2.slices_Insert_string_end_room Tryz.layInsS g 0 i cap h 0 1 1 [u] w (by omega) hroom hc63 rfl (fun j hj => by
          rw [show 0 + i + j = 0 + (i + j) by omega]; exact hsome _ (by omega)) (fun j _ => frozen_of_row w g _ _ 9 hg) hvs hv1).mono ?_
        rintro e w' ⟨rfl, rfl⟩
        refine ⟨_, rfl, stay (L.take i ++ [u] ++ L.drop (i + 1)) _ ?_ (by simp; omega) ?_, setCells_kept' w g _ _, .inl rfl⟩
        · rw [Nat.zero_add]; exact setCells_exact [u] i w L (by simp; omega) hg
        · have := list_split (u := u) hct hlx (Nat.le_refl i)
          rw [List.drop_eq_nil_of_le (by omega), List.nil_append] at this
          exact this.trans (by rw [List.drop_eq_nil_of_le (by omega)])
      · have hc63 : cap ≤ 9223372036854775807 := by unfold maxLen at hcm; omega
        refine (Any2.slices_Insert_string_shift Tryz.layInsS g 0 n cap i h 0 1 1 xs [u] w (by omega) (by omega) hroom hc63 hgh hlx rfl hcell (fun j hj => hsome j (by omega)) (fun j _ => frozen_of_row w g _ _ 9 hg) hvs h1 hv1 9 9 1 L.length (shape_row hX) (by rw [shape_row hg]; simp) (by omega) (frozen_of_row w h _ _ 9 hX) (frozen_of_row w h _ _ 9 hX)).mono ?_
        rintro e w' ⟨rfl, rfl⟩
        have s1 := setCells_exact (xs.drop i) (i + 1) w.drew L (by simp; omega) hg
        have e1 : i + 1 + (xs.drop i).length = n + 1 := by simp; omega
        rw [e1] at s1
        have s2 := setCells_exact [u] i (w.drew.setCells g (i + 1) (xs.drop i)) _ (by simp; omega) s1
        have e2 : (L.take (i + 1) ++ xs.drop i ++ L.drop (n + 1)).take i ++ [u] ++ (L.take (i + 1) ++ xs.drop i ++ L.drop (n + 1)).drop (i + [u].length) = L.take i ++ [u] ++ (xs.drop i ++ L.drop (n + 1)) := by
          have l1 : (L.take (i + 1)).length = i + 1 := by simp; omega
          rw [List.append_assoc (L.take (i + 1)), List.take_append_of_le_length (by omega), List.take_take, Nat.min_eq_left (by omega)]
          show _ ++ (L.take (i + 1) ++ (xs.drop i ++ L.drop (n + 1))).drop (i + 1) = _
          rw [List.drop_left' l1]
        rw [e2] at s2
        refine ⟨_, rfl, stay _ _ (by rw [Nat.zero_add, Nat.zero_add]; exact s2) (by simp; omega) (list_split hct hlx hi), ?_, .inl rfl⟩
        have kk := (setCells_kept' w.drew g (0 + (i + 1)) (xs.drop i) (n := n) (c := cap)).trans (setCells_kept' (w.drew.setCells g (0 + (i + 1)) (xs.drop i)) g (0 + i) [u] (n := n) (c := cap)) (fun _ _ h => h) (fun _ _ h => h) (U := fun q => (Value.slice (some ⟨g, 0, none⟩) n cap).ownBlock = some q)
        exact ⟨kk.os, kk.tape, kk.output, kk.size, kk.block⟩
    · have hnc' : n = cap := by omega
      by_cases hin : i = n
      · subst hin
        have hc := Any2.slices_Insert_string_end_grow Tryz.layInsS (some ⟨g, 0, none⟩) i cap h 0 1 1 xs [u] w (by omega) hnc (by omega) (by omega) hlx rfl (fun e => by cases e) (fun a e j y hj => by
          injection e with e
          rw [← e, addr_add]
          have := hcell j y hj
          rwa [Nat.zero_add] at this) hvs hv1
        rw [show Tryz.layInsS_ren.t 9 = 9 from rfl] at hc
        refine hc.mono ?_
        rintro e w' ⟨rfl, rfl⟩
        refine ⟨_, rfl, fresh _ (((xs ++ [u] : List Value).toArray ++ Builtin.zeroCells (Value.string ⟨#[]⟩).cells (grownCap w (i + 1) cap 9 - (i + 1))).toList) _ ?_ (grownCap_ge _ _ _ _) (grownCap_max _ _ _ _ (by omega)) ?_ ?_, ?_, .inr rfl⟩
        · exact heap_alloc_new w.drew _
        · have := grownCap_ge w (i + 1) cap 9
          simp [size_zeroCells, Value.cells]; omega
        · rw [Array.toList_append, List.take_left' (by simp; omega)]
          rw [List.take_of_length_le (by omega), List.drop_eq_nil_of_le (by omega)]
        · exact ⟨rfl, rfl, rfl, by simp, fun k hk _ => Below.heap_alloc w.drew _ _ hk⟩
      · have hc := Any2.slices_Insert_string_grow Tryz.layInsS g 0 n cap i h 0 1 1 xs [u] w (by omega) (by omega) hnc (by omega) (by omega) hlx rfl hcell hvs h1 hv1
        rw [show Tryz.layInsS_ren.t 9 = 9 from rfl] at hc
        refine hc.mono ?_
        rintro e w' ⟨rfl, rfl⟩
        obtain ⟨gc, hgc⟩ : ∃ gc, gc = grownCap w (n + 1) cap 9 := ⟨_, rfl⟩
        have hge := grownCap_ge w (n + 1) cap 9
        have hmx := grownCap_max w (n + 1) cap 9 (by omega)
        rw [← hgc] at hge hmx
        obtain ⟨L0, hL0⟩ : ∃ L0, L0 = ((xs.take i).toArray ++ Builtin.zeroCells (Value.string ⟨#[]⟩).cells (n + 1 - i) ++ Builtin.zeroCells (Value.string ⟨#[]⟩).cells (gc - (n + 1))).toList := ⟨_, rfl⟩
        have hl0 : L0.length = gc := by rw [hL0]; simp [size_zeroCells, Value.cells]; omega
        have ht0 : L0.take i = xs.take i := by
          rw [hL0, Array.toList_append, Array.toList_append, List.append_assoc, List.take_left' (by simp; omega)]
        obtain ⟨W1, hW1⟩ : ∃ W1, W1 = (w.alloc (.cells L0.toArray 9)).drew := ⟨_, rfl⟩
        have r1 : W1.heap[w.heap.size]? = some (.cells L0.toArray 9 (0, 0)) := by rw [hW1]; exact heap_alloc_new w _
        have s1 := setCells_exact [u] i W1 L0 (by simp; omega) r1
        obtain ⟨W2, hW2⟩ : ∃ W2, W2 = (W1.setCells w.heap.size i [u]).drew := ⟨_, rfl⟩
        have r2 : W2.heap[w.heap.size]? = some (.cells (L0.take i ++ [u] ++ L0.drop (i + [u].length)).toArray 9 (0, 0)) := by rw [hW2]; exact s1
        have s2 := setCells_exact (xs.drop i) (i + 1) W2 _ (by simp; omega) r2
        have e2 : (L0.take i ++ [u] ++ L0.drop (i + [u].length)).take (i + 1) ++ xs.drop i ++ (L0.take i ++ [u] ++ L0.drop (i + [u].length)).drop (i + 1 + (xs.drop i).length) = (xs.take i ++ u :: xs.drop i) ++ L0.drop (n + 1) := by
          have l1 : (L0.take i ++ [u]).length = i + 1 := by simp; omega
          rw [List.take_left' l1, show i + 1 + (xs.drop i).length = (i + 1) + (n - i) by simp; omega, ← List.drop_drop, List.drop_left' l1]
          rw [ht0, List.drop_drop]
          have : i + [u].length + (n - i) = n + 1 := by simp; omega
          rw [this]; simp
        rw [e2] at s2
        refine ⟨_, rfl, fresh gc _ (W2.setCells w.heap.size (i + 1) (xs.drop i)) s2 hge hmx (by simp; omega) (List.take_left' (by simp; omega)) |> fun r => ?_, ?_, .inr rfl⟩
        · have hw : (((w.alloc (.cells ((xs.take i).toArray ++ Builtin.zeroCells (Value.string ⟨#[]⟩).cells (n + 1 - i) ++ Builtin.zeroCells (Value.string ⟨#[]⟩).cells (grownCap w (n + 1) cap 9 - (n + 1))) 9)).drew.setCells w.heap.size i [u]).drew).setCells w.heap.size (i + 1) (xs.drop i) = W2.setCells w.heap.size (i + 1) (xs.drop i) := by
            rw [hW2, hW1, hL0, hgc]
          have hgc' := hgc
          rw [hgc] at r
          exact hw ▸ r
        · have k1 : Kept (fun q => q = w.heap.size) w.drew ((w.alloc (.cells ((xs.take i).toArray ++ Builtin.zeroCells (Value.string ⟨#[]⟩).cells (n + 1 - i) ++ Builtin.zeroCells (Value.string ⟨#[]⟩).cells (grownCap w (n + 1) cap 9 - (n + 1))) 9)).drew) := ⟨rfl, rfl, rfl, by simp, fun k hk _ => Below.heap_alloc w _ _ hk⟩
          have k2 := (k1.trans (setCells_kept _ w.heap.size i [u]) (fun _ _ h => h) (fun _ _ h => h) (U := fun q => q = w.heap.size))
          obtain ⟨W3, hW3⟩ : ∃ W3, W3 = ((w.alloc (.cells ((xs.take i).toArray ++ Builtin.zeroCells (Value.string ⟨#[]⟩).cells (n + 1 - i) ++ Builtin.zeroCells (Value.string ⟨#[]⟩).cells (grownCap w (n + 1) cap 9 - (n + 1))) 9)).drew.setCells w.heap.size i [u]).drew := ⟨_, rfl⟩
          have k2' : Kept (fun q => q = w.heap.size) w W3 := by rw [hW3]; exact ⟨k2.os, k2.tape, k2.output, k2.size, k2.block⟩
          have k3 := (k2'.trans (setCells_kept W3 w.heap.size (i + 1) (xs.drop i)) (fun _ _ h => h) (fun _ _ h => h) (U := fun q => q = w.heap.size))
          rw [hW3] at k3
          exact ⟨k3.os, k3.tape, k3.output, k3.size, fun k hk _ => k3.block k hk (by omega)⟩
end Go.Proofs.YtnlolhlbpdmljaaGreatDoor
