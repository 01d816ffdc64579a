/-
  Trees of pages, in plain Lean: what a tree is, how a pair put below a page turns it. Trees of pages, in plain Lean: a child that became one page, or two; a node that was parted.
  Conditions: none.
-/
import Derived.Test.YtnlolhlbpdmljaaGreatDoorTreC
namespace Go.Proofs.YtnlolhlbpdmljaaGreatDoor

/-- The edges between children. -/
def edges (lo : Nat) (keys : List Nat) (hi : Nat) : List Nat := lo :: (keys ++ [hi])
def edg (lo : Nat) (keys : List Nat) (hi i : Nat) : Nat := (edges lo keys hi).getD i 0
theorem edg_zero (lo : Nat) (keys : List Nat) (hi : Nat) : edg lo keys hi 0 = lo := rfl
theorem edg_succ {lo : Nat} {keys : List Nat} {hi i : Nat} (h : i < keys.length) : edg lo keys hi (i + 1) = keys.getD i 0 := by
  unfold edg edges
  rw [List.getD_eq_getElem?_getD, List.getElem?_cons_succ, List.getElem?_append_left h, ← List.getD_eq_getElem?_getD]
theorem edg_last {lo : Nat} {keys : List Nat} {hi : Nat} : edg lo keys hi (keys.length + 1) = hi := by
  unfold edg edges
  rw [List.getD_eq_getElem?_getD, List.getElem?_cons_succ, List.getElem?_append_right (Nat.le_refl _)]
  simp
/-- A tree of the height h at the page at: its keys lie from lo on below hi; its pages are ps; it has K keys in its leaves; its root has no fewer than mn keys. -/
def PTree (V : Nat → B8) : Nat → Nat → Nat → Nat → Nat → List Nat → Nat → Prop
  | 0 => fun _ _ _ _ _ _ => False
  | h + 1 => fun mn at_ lo hi ps K => ∃ n ps0, NRight n ∧ V at_ = laidP 2 (nlay n) ∧ (2 ≤ at_ ∧ at_ < 240) ∧ (mn ≤ n.keys.length ∧ 1 ≤ n.keys.length) ∧ (∀ k ∈ n.keys, lo ≤ k ∧ k < hi) ∧ ps = at_ :: ps0 ∧ ps.Nodup ∧
      ((h = 0 ∧ n.kids = [] ∧ ps0 = [] ∧ K = n.keys.length) ∨
       (n.kids ≠ [] ∧ ∃ (pss : List (List Nat)) (Ks : List Nat), pss.length = n.kids.length ∧ Ks.length = n.kids.length ∧ ps0 = pss.flatten ∧ K = Ks.sum ∧
          ∀ i, i < n.kids.length → PTree V h 3 (n.kids.getD i 0) (edg lo n.keys hi i) (edg lo n.keys hi (i + 1)) (pss.getD i []) (Ks.getD i 0)))
/-- What lies below a node. -/
def Cont (V : Nat → B8) (h lo hi : Nat) (n : PN) (ps0 : List Nat) (K : Nat) : Prop :=
  (h = 0 ∧ n.kids = [] ∧ ps0 = [] ∧ K = n.keys.length) ∨
  (n.kids ≠ [] ∧ ∃ (pss : List (List Nat)) (Ks : List Nat), pss.length = n.kids.length ∧ Ks.length = n.kids.length ∧ ps0 = pss.flatten ∧ K = Ks.sum ∧
    ∀ i, i < n.kids.length → PTree V h 3 (n.kids.getD i 0) (edg lo n.keys hi i) (edg lo n.keys hi (i + 1)) (pss.getD i []) (Ks.getD i 0))
theorem ptree_eq {V : Nat → B8} {h mn at_ lo hi K : Nat} {ps : List Nat} : PTree V (h + 1) mn at_ lo hi ps K ↔ ∃ n ps0, NRight n ∧ V at_ = laidP 2 (nlay n) ∧ (2 ≤ at_ ∧ at_ < 240) ∧ (mn ≤ n.keys.length ∧ 1 ≤ n.keys.length) ∧ (∀ k ∈ n.keys, lo ≤ k ∧ k < hi) ∧ ps = at_ :: ps0 ∧ ps.Nodup ∧ Cont V h lo hi n ps0 K := Iff.rfl
theorem mem_getD_flatten {pss : List (List Nat)} {i p : Nat} (h : p ∈ pss.getD i []) : p ∈ pss.flatten := by
  rw [List.getD_eq_getElem?_getD] at h
  cases hx : pss[i]? with
  | none => rw [hx] at h; cases h
  | some x => rw [hx] at h; exact List.mem_flatten.2 ⟨x, List.mem_of_getElem? hx, h⟩
theorem mem_flatten_getD {pss : List (List Nat)} {p : Nat} (h : p ∈ pss.flatten) : ∃ i, i < pss.length ∧ p ∈ pss.getD i [] := by
  obtain ⟨x, hx, hp⟩ := List.mem_flatten.1 h
  obtain ⟨i, hi, e⟩ := List.mem_iff_getElem.1 hx
  exact ⟨i, hi, by rw [List.getD_eq_getElem?_getD, List.getElem?_eq_getElem hi, e]; exact hp⟩
/-- A tree looks at its own pages alone. -/
theorem PTree.congr {V V' : Nat → B8} : ∀ {h mn at_ lo hi K : Nat} {ps : List Nat}, PTree V h mn at_ lo hi ps K → (∀ p ∈ ps, V' p = V p) → PTree V' h mn at_ lo hi ps K := by
  intro h
  induction h with
  | zero => intro _ _ _ _ _ _ h; exact h.elim
  | succ h ih =>
    rintro mn at_ lo hi K ps ⟨n, ps0, h1, h2, h3, h4, h5, rfl, h7, h8⟩ hv
    refine ⟨n, ps0, h1, (hv at_ (by simp)).trans h2, h3, h4, h5, rfl, h7, ?_⟩
    rcases h8 with h8 | ⟨hk, pss, Ks, e1, e2, rfl, e4, e5⟩
    · exact .inl h8
    · exact .inr ⟨hk, pss, Ks, e1, e2, rfl, e4, fun i hi => ih (e5 i hi) (fun p hp => hv p (List.mem_cons_of_mem _ (mem_getD_flatten hp)))⟩
theorem Cont.congr {V V' : Nat → B8} {h lo hi K : Nat} {n : PN} {ps0 : List Nat} (hc : Cont V h lo hi n ps0 K) (hv : ∀ p ∈ ps0, V' p = V p) : Cont V' h lo hi n ps0 K := by
  rcases hc with h8 | ⟨hk, pss, Ks, e1, e2, rfl, e4, e5⟩
  · exact .inl h8
  · exact .inr ⟨hk, pss, Ks, e1, e2, rfl, e4, fun i hi => (e5 i hi).congr (fun p hp => hv p (mem_getD_flatten hp))⟩
theorem PTree.page {V : Nat → B8} {h mn at_ lo hi K : Nat} {ps : List Nat} (ht : PTree V h mn at_ lo hi ps K) : at_ ∈ ps ∧ 2 ≤ at_ ∧ at_ < 240 := by
  cases h with
  | zero => exact ht.elim
  | succ h => obtain ⟨n, ps0, h1, h2, h3, h4, h5, rfl, h7, h8⟩ := ht; exact ⟨by simp, h3⟩
theorem PTree.nodup {V : Nat → B8} {h mn at_ lo hi K : Nat} {ps : List Nat} (ht : PTree V h mn at_ lo hi ps K) : ps.Nodup := by
  cases h with
  | zero => exact ht.elim
  | succ h => obtain ⟨n, ps0, h1, h2, h3, h4, h5, rfl, h7, h8⟩ := ht; exact h7
theorem PTree.range {V : Nat → B8} : ∀ {h mn at_ lo hi K : Nat} {ps : List Nat}, PTree V h mn at_ lo hi ps K → ∀ p ∈ ps, 2 ≤ p ∧ p < 240 := by
  intro h
  induction h with
  | zero => intro _ _ _ _ _ _ h; exact h.elim
  | succ h ih =>
    rintro mn at_ lo hi K ps ⟨n, ps0, h1, h2, h3, h4, h5, rfl, h7, h8⟩ p hp
    rcases List.mem_cons.1 hp with rfl | hp
    · exact h3
    · rcases h8 with ⟨_, _, rfl, _⟩ | ⟨hk, pss, Ks, e1, e2, rfl, e4, e5⟩
      · cases hp
      · obtain ⟨i, hi, hp⟩ := mem_flatten_getD hp
        exact ih (e5 i (by omega)) p hp
theorem sum_getD_le {Ks : List Nat} {c : Nat} (h : ∀ i, i < Ks.length → c ≤ Ks.getD i 0) : c * Ks.length ≤ Ks.sum := by
  induction Ks with
  | nil => simp
  | cons k l ih =>
    rw [List.sum_cons, List.length_cons, Nat.mul_succ]
    have h0 := h 0 (by simp)
    have h1 := ih (fun i hi => by have := h (i + 1) (by simpa using hi); simpa using this)
    simp at h0
    omega
/-- A tree has few pages and is low. -/
theorem PTree.few {V : Nat → B8} : ∀ {h mn at_ lo hi K : Nat} {ps : List Nat}, PTree V h mn at_ lo hi ps K → ps.length + 1 ≤ 2 * K ∧ 2 ^ h ≤ 2 * K := by
  intro h
  induction h with
  | zero => intro _ _ _ _ _ _ h; exact h.elim
  | succ h ih =>
    rintro mn at_ lo hi K ps ⟨n, ps0, h1, h2, h3, h4, h5, rfl, h7, h8⟩
    rcases h8 with ⟨rfl, _, rfl, rfl⟩ | ⟨hk, pss, Ks, e1, e2, rfl, rfl, e5⟩
    · exact ⟨by simp; omega, by omega⟩
    · have hk2 : 2 ≤ n.kids.length := by
        rcases h1.shape with ⟨e, _⟩ | ⟨_, h1k, h2k, _⟩
        · exact absurd e hk
        · omega
      have key : ∀ (pss : List (List Nat)) (Ks : List Nat), pss.length = Ks.length → (∀ i, i < Ks.length → (pss.getD i []).length + 1 ≤ 2 * Ks.getD i 0) → pss.flatten.length + Ks.length ≤ 2 * Ks.sum := by
        intro pss
        induction pss with
        | nil => intro Ks e _; have : Ks = [] := List.eq_nil_of_length_eq_zero e.symm; subst this; simp
        | cons x l ih2 =>
          intro Ks e h
          cases Ks with
          | nil => simp at e
          | cons k l' =>
            have h0 := h 0 (by simp)
            have h1 := ih2 l' (by simpa using e) (fun i hi => by have := h (i + 1) (by simpa using hi); simpa using this)
            simp at h0
            rw [List.flatten_cons, List.length_append, List.length_cons, List.sum_cons]
            omega
      have hA := key pss Ks (by omega) (fun i hi => (ih (e5 i (by omega))).1)
      have hB : ∀ i, i < Ks.length → 2 ^ h ≤ 2 * Ks.getD i 0 := fun i hi => (ih (e5 i (by omega))).2
      have hC : ∀ (Ks : List Nat), (∀ i, i < Ks.length → 2 ^ h ≤ 2 * Ks.getD i 0) → 2 ^ h * Ks.length ≤ 2 * Ks.sum := by
        intro Ks
        induction Ks with
        | nil => intro _; simp
        | cons k l ih3 =>
          intro hh
          have h0 := hh 0 (by simp)
          have h1 := ih3 (fun i hi => by have := hh (i + 1) (by simpa using hi); simpa using this)
          simp at h0
          rw [List.sum_cons, List.length_cons, Nat.mul_succ]
          omega
      have hD := hC Ks hB
      refine ⟨by rw [List.length_cons]; omega, ?_⟩
      have : 2 ^ h * 2 ≤ 2 ^ h * Ks.length := Nat.mul_le_mul_left _ (by omega)
      rw [Nat.pow_succ]; omega
end Go.Proofs.YtnlolhlbpdmljaaGreatDoor
namespace Go.Proofs.YtnlolhlbpdmljaaGreatDoor

/-- A member put in at a place. -/
def ins {α : Type} (l : List α) (i : Nat) (u : α) : List α := l.take i ++ u :: l.drop i
theorem ins_length {α : Type} (l : List α) (i : Nat) (u : α) : (ins l i u).length = l.length + 1 := by
  unfold ins
  have := congrArg List.length (List.take_append_drop i l)
  rw [List.length_append] at this
  rw [List.length_append, List.length_cons]; omega
theorem mem_ins {α : Type} {l : List α} {i : Nat} {u x : α} : x ∈ ins l i u ↔ x = u ∨ x ∈ l := by
  unfold ins
  rw [List.mem_append, List.mem_cons]
  have : x ∈ l ↔ x ∈ l.take i ∨ x ∈ l.drop i := by rw [← List.mem_append, List.take_append_drop]
  rw [this]
  constructor
  · rintro (h | h | h)
    · exact .inr (.inl h)
    · exact .inl h
    · exact .inr (.inr h)
  · rintro (h | h | h)
    · exact .inr (.inl h)
    · exact .inl h
    · exact .inr (.inr h)
theorem getD_ins {α : Type} {l : List α} {k : Nat} {u d : α} (hk : k ≤ l.length) (i : Nat) : (ins l k u).getD i d = if i < k then l.getD i d else if i = k then u else l.getD (i - 1) d := by
  unfold ins
  have hl : (l.take k).length = k := by rw [List.length_take]; omega
  rw [List.getD_eq_getElem?_getD, List.getElem?_append, hl]
  by_cases h : i < k
  · rw [if_pos h, if_pos h, List.getElem?_take, if_pos h, List.getD_eq_getElem?_getD]
  · rw [if_neg h, if_neg h]
    by_cases h2 : i = k
    · rw [if_pos h2, h2, Nat.sub_self]; rfl
    · rw [if_neg h2]
      obtain ⟨j, hj⟩ : ∃ j, i - k = j + 1 := ⟨i - k - 1, by omega⟩
      rw [hj, List.getElem?_cons_succ, List.getElem?_drop, List.getD_eq_getElem?_getD]
      rw [show k + j = i - 1 by omega]
theorem getD_put {α : Type} {l : List α} {k : Nat} {u d : α} (hk : k < l.length) (i : Nat) : (l.set k u).getD i d = if i = k then u else l.getD i d := by
  rw [List.getD_eq_getElem?_getD, List.getElem?_set, List.getD_eq_getElem?_getD]
  by_cases h : k = i
  · subst h; rw [if_pos rfl, if_pos rfl, if_pos hk]; rfl
  · rw [if_neg h, if_neg (fun e => h e.symm)]
theorem edges_ins {lo : Nat} {keys : List Nat} {hi k g : Nat} (hk : k ≤ keys.length) : edges lo (ins keys k g) hi = ins (edges lo keys hi) (k + 1) g := by
  unfold edges ins
  rw [List.take_succ_cons, List.drop_succ_cons, List.take_append_of_le_length hk, List.drop_append_of_le_length hk]
  simp
theorem edg_ins {lo : Nat} {keys : List Nat} {hi k g : Nat} (hk : k ≤ keys.length) (i : Nat) : edg lo (ins keys k g) hi i = if i ≤ k then edg lo keys hi i else if i = k + 1 then g else edg lo keys hi (i - 1) := by
  unfold edg
  rw [edges_ins hk, getD_ins (by unfold edges; simp; omega)]
  by_cases h : i < k + 1
  · rw [if_pos h, if_pos (by omega)]
  · rw [if_neg h]
    by_cases h2 : i = k + 1
    · rw [if_pos h2, if_neg (by omega)]
    · rw [if_neg h2, if_neg (by omega)]
theorem set_eq {α : Type} {l : List α} {k : Nat} (hk : k < l.length) (u : α) : l.set k u = l.take k ++ u :: l.drop (k + 1) := List.set_eq_take_append_cons_drop .. |>.trans (if_pos hk)
theorem ins_set {α : Type} {l : List α} {k : Nat} (hk : k < l.length) (u v : α) : ins (l.set k u) (k + 1) v = l.take k ++ u :: v :: l.drop (k + 1) := by
  have hl : (l.take k).length = k := by rw [List.length_take]; omega
  unfold ins
  rw [set_eq hk]
  rw [List.take_append, List.drop_append, hl, show k + 1 - k = 1 by omega]
  rw [List.take_of_length_le (l := l.take k) (by omega), show (l.take k).drop (k + 1) = [] from List.drop_eq_nil_of_le (by omega)]
  simp
theorem list_at {α : Type} {l : List α} {k : Nat} (d : α) (hk : k < l.length) : l = l.take k ++ l.getD k d :: l.drop (k + 1) := by
  have : l.getD k d = l[k] := by rw [List.getD_eq_getElem?_getD, List.getElem?_eq_getElem hk]; rfl
  rw [this, ← List.drop_eq_getElem_cons hk, List.take_append_drop]
/-- A child that became one page, or two. -/
theorem Cont.child {V : Nat → B8} {h lo hi K : Nat} {n : PN} {ps0 : List Nat} (hc : Cont V h lo hi n ps0 K) (hn : n.kids ≠ []) (k : Nat) (hk : k < n.kids.length) (hkey : k ≤ n.keys.length) : ∃ psk Kk A B, PTree V h 3 (n.kids.getD k 0) (edg lo n.keys hi k) (edg lo n.keys hi (k + 1)) psk Kk ∧ ps0 = A ++ (psk ++ B) ∧ n.kids.getD k 0 ∈ ps0 ∧ (∀ i, i < n.kids.length → n.kids.getD i 0 ∈ ps0 ∧ (i ≠ k → n.kids.getD i 0 ∈ A ∨ n.kids.getD i 0 ∈ B)) ∧
    (∀ V' l ps' K', (∀ p ∈ ps0, V' p = V p) → PTree V' h 3 l (edg lo n.keys hi k) (edg lo n.keys hi (k + 1)) ps' K' → ∃ K2, K2 + Kk = K + K' ∧ Cont V' h lo hi ⟨n.keys, n.vals, n.kids.set k l⟩ (A ++ (ps' ++ B)) K2) ∧
    (∀ V' l r g ps1 ps2 K1 K2, (∀ p ∈ ps0, V' p = V p) → PTree V' h 3 l (edg lo n.keys hi k) g ps1 K1 → PTree V' h 3 r g (edg lo n.keys hi (k + 1)) ps2 K2 → ∃ K3, K3 + Kk = K + (K1 + K2) ∧ Cont V' h lo hi ⟨ins n.keys k g, n.vals, ins (n.kids.set k l) (k + 1) r⟩ (A ++ ((ps1 ++ ps2) ++ B)) K3) := by
  rcases hc with ⟨_, e, _⟩ | ⟨_, pss, Ks, e1, e2, rfl, rfl, e5⟩
  · exact absurd e hn
  have hkp : k < pss.length := by omega
  have hkK : k < Ks.length := by omega
  have fl : pss.flatten = (pss.take k).flatten ++ (pss.getD k [] ++ (pss.drop (k + 1)).flatten) := by
    conv => lhs; rw [list_at [] hkp]
    simp
  have sm : Ks.sum = (Ks.take k).sum + (Ks.getD k 0 + (Ks.drop (k + 1)).sum) := by
    conv => lhs; rw [list_at 0 hkK]
    simp
  refine ⟨pss.getD k [], Ks.getD k 0, (pss.take k).flatten, (pss.drop (k + 1)).flatten, e5 k hk, fl, mem_getD_flatten (e5 k hk).page.1, ?_, ?_, ?_⟩
  · intro i hi
    have hm := (e5 i hi).page.1
    refine ⟨mem_getD_flatten hm, fun hne => ?_⟩
    by_cases hlt : i < k
    · left
      refine mem_getD_flatten (i := i) ?_
      rw [List.getD_eq_getElem?_getD, List.getElem?_take, if_pos hlt, ← List.getD_eq_getElem?_getD]; exact hm
    · right
      refine mem_getD_flatten (i := i - (k + 1)) ?_
      rw [List.getD_eq_getElem?_getD, List.getElem?_drop, show k + 1 + (i - (k + 1)) = i by omega, ← List.getD_eq_getElem?_getD]; exact hm
  · intro V' l ps' K' hv ht
    refine ⟨(Ks.set k K').sum, ?_, .inr ⟨by simpa using hn, pss.set k ps', Ks.set k K', by simpa using e1, by simpa using e2, ?_, rfl, ?_⟩⟩
    · rw [sm, set_eq hkK]; simp; omega
    · rw [set_eq hkp]; simp
    · intro i hi
      simp only [List.length_set] at hi
      show PTree V' h 3 ((n.kids.set k l).getD i 0) _ _ _ _
      rw [getD_put (l := n.kids) hk, getD_put (l := pss) hkp, getD_put (l := Ks) hkK]
      by_cases h : i = k
      · subst h; simp only [if_true]; exact ht
      · simp only [if_neg h]; exact (e5 i hi).congr (fun p hp => hv p (mem_getD_flatten hp))
  · intro V' l r g ps1 ps2 K1 K2 hv h1 h2
    refine ⟨(ins (Ks.set k K1) (k + 1) K2).sum, ?_, .inr ⟨?_, ins (pss.set k ps1) (k + 1) ps2, ins (Ks.set k K1) (k + 1) K2, ?_, ?_, ?_, rfl, ?_⟩⟩
    · rw [sm, ins_set hkK]; simp; omega
    · show ins _ _ _ ≠ []
      intro e; have := congrArg List.length e; rw [ins_length] at this; simp at this
    · show _ = (ins (n.kids.set k l) (k + 1) r).length
      rw [ins_length, ins_length, List.length_set, List.length_set, e1]
    · show _ = (ins (n.kids.set k l) (k + 1) r).length
      rw [ins_length, ins_length, List.length_set, List.length_set, e2]
    · rw [ins_set hkp]; simp
    · intro i hi
      have hi : i < (ins (n.kids.set k l) (k + 1) r).length := hi
      rw [ins_length, List.length_set] at hi
      show PTree V' h 3 ((ins (n.kids.set k l) (k + 1) r).getD i 0) (edg lo (ins n.keys k g) _ i) (edg lo (ins n.keys k g) _ (i + 1)) _ _
      rw [getD_ins (by rw [List.length_set]; omega), getD_ins (by rw [List.length_set]; omega), getD_ins (by rw [List.length_set]; omega), edg_ins hkey, edg_ins hkey, getD_put (l := n.kids) hk, getD_put (l := n.kids) hk, getD_put (l := pss) hkp, getD_put (l := pss) hkp, getD_put (l := Ks) hkK, getD_put (l := Ks) hkK]
      by_cases c1 : i < k
      · simp only [if_pos (show i < k + 1 by omega), if_neg (show ¬ i = k by omega), if_pos (show i ≤ k by omega), if_pos (show i + 1 ≤ k by omega)]
        exact (e5 i (by omega)).congr (fun p hp => hv p (mem_getD_flatten hp))
      · by_cases c2 : i = k
        · subst c2
          simp only [if_pos (show i < i + 1 by omega), if_pos (show i ≤ i by omega), if_neg (show ¬ i + 1 ≤ i by omega), if_true]
          exact h1
        · by_cases c3 : i = k + 1
          · subst c3
            simp only [if_neg (show ¬ k + 1 < k + 1 by omega), if_neg (show ¬ k + 1 ≤ k by omega), if_neg (show ¬ k + 1 + 1 ≤ k by omega), if_neg (show ¬ k + 1 + 1 = k + 1 by omega), if_true, Nat.add_sub_cancel]
            exact h2
          · simp only [if_neg (show ¬ i < k + 1 by omega), if_neg c3, if_neg (show ¬ i - 1 = k by omega), if_neg (show ¬ i ≤ k by omega), if_neg (show ¬ i + 1 ≤ k by omega), if_neg (show ¬ i + 1 = k + 1 by omega), Nat.add_sub_cancel]
            have := (e5 (i - 1) (by omega)).congr (V' := V') (fun p hp => hv p (mem_getD_flatten hp))
            rw [show i - 1 + 1 = i by omega] at this
            exact this
/-- A node of eight keys, parted. -/
theorem Cont.parted {V : Nat → B8} {h lo hi K : Nat} {n : PN} {ps0 : List Nat} (hc : Cont V h lo hi n ps0 K) (hb : NBig n) : ∃ ps1 ps2 K1 K2, ps0 = ps1 ++ ps2 ∧ K = K1 + K2 ∧ Cont V h lo (n.keys.getD 4 0) (splitA n) ps1 K1 ∧ Cont V h (n.keys.getD 4 0) hi (splitB n) ps2 K2 := by
  have hl := hb.len
  rcases hc with ⟨rfl, e, rfl, rfl⟩ | ⟨hn, pss, Ks, e1, e2, rfl, rfl, e5⟩
  · refine ⟨[], [], 4, 4, rfl, hl, .inl ⟨rfl, ?_, rfl, ?_⟩, .inl ⟨rfl, ?_, rfl, ?_⟩⟩
    · unfold splitA; rw [if_pos (by rw [e]; rfl)]
    · unfold splitA; rw [if_pos (by rw [e]; rfl)]; simp; omega
    · unfold splitB; rw [if_pos (by rw [e]; rfl)]
    · unfold splitB; rw [if_pos (by rw [e]; rfl)]; simp; omega
  · have h9 : n.kids.length = 9 := by
      rcases hb.shape with ⟨e, _⟩ | ⟨_, h9, _⟩
      · exact absurd e hn
      · exact h9
    have hA : splitA n = ⟨n.keys.take 4, [], n.kids.take 5⟩ := by unfold splitA; rw [if_neg (by omega)]
    have hB : splitB n = ⟨n.keys.drop 5, [], n.kids.drop 5⟩ := by unfold splitB; rw [if_neg (by omega)]
    have hk4 : n.keys = n.keys.take 4 ++ n.keys.getD 4 0 :: n.keys.drop 5 := list_at 0 (by omega)
    have t4 : (n.keys.take 4).length = 4 := by rw [List.length_take]; omega
    have gA : ∀ i, i ≤ 5 → edg lo (n.keys.take 4) (n.keys.getD 4 0) i = edg lo n.keys hi i := by
      intro i hi5
      have : edges lo n.keys hi = edges lo (n.keys.take 4) (n.keys.getD 4 0) ++ (n.keys.drop 5 ++ [hi]) := by
        unfold edges
        conv => lhs; rw [hk4]
        simp
      unfold edg
      rw [this, List.getD_eq_getElem?_getD (l := _ ++ _), List.getElem?_append_left (by unfold edges; simp [t4]; omega), ← List.getD_eq_getElem?_getD]
    have gB : ∀ i, edg (n.keys.getD 4 0) (n.keys.drop 5) hi i = edg lo n.keys hi (i + 5) := by
      intro i
      have : edges lo n.keys hi = (lo :: n.keys.take 4) ++ edges (n.keys.getD 4 0) (n.keys.drop 5) hi := by
        unfold edges
        conv => lhs; rw [hk4]
        simp
      unfold edg
      rw [this, List.getD_eq_getElem?_getD (l := _ ++ _), List.getElem?_append_right (by simp only [List.length_cons, t4]; omega), ← List.getD_eq_getElem?_getD]
      simp only [List.length_cons, t4]
      rw [show i + 5 - (4 + 1) = i by omega]
    have dT : ∀ {α : Type} (l : List α) (i : Nat) (d : α), i < 5 → (l.take 5).getD i d = l.getD i d := by
      intro α l i d h
      rw [List.getD_eq_getElem?_getD, List.getElem?_take, if_pos h, ← List.getD_eq_getElem?_getD]
    have dD : ∀ {α : Type} (l : List α) (i : Nat) (d : α), (l.drop 5).getD i d = l.getD (i + 5) d := by
      intro α l i d
      rw [List.getD_eq_getElem?_getD, List.getElem?_drop, ← List.getD_eq_getElem?_getD, Nat.add_comm]
    refine ⟨(pss.take 5).flatten, (pss.drop 5).flatten, (Ks.take 5).sum, (Ks.drop 5).sum, ?_, ?_, .inr ⟨?_, pss.take 5, Ks.take 5, ?_, ?_, rfl, rfl, ?_⟩, .inr ⟨?_, pss.drop 5, Ks.drop 5, ?_, ?_, rfl, rfl, ?_⟩⟩
    · rw [← List.flatten_append, List.take_append_drop]
    · rw [← List.sum_append, List.take_append_drop]
    · rw [hA]; intro e; have := congrArg List.length e; rw [List.length_take] at this; simp only [List.length_nil] at this; omega
    · rw [hA]; simp; omega
    · rw [hA]; simp; omega
    · intro i hi
      rw [hA] at hi ⊢
      have hi5 : i < 5 := by simp at hi; omega
      show PTree V h 3 ((n.kids.take 5).getD i 0) (edg lo (n.keys.take 4) _ i) (edg lo (n.keys.take 4) _ (i + 1)) _ _
      rw [gA i (by omega), gA (i + 1) (by omega), dT _ _ _ hi5, dT _ _ _ hi5, dT _ _ _ hi5]
      exact e5 i (by omega)
    · rw [hB]; intro e; have := congrArg List.length e; rw [List.length_drop] at this; simp only [List.length_nil] at this; omega
    · rw [hB]; simp; omega
    · rw [hB]; simp; omega
    · intro i hi
      rw [hB] at hi ⊢
      have hi5 : i < 4 := by simp at hi; omega
      show PTree V h 3 ((n.kids.drop 5).getD i 0) (edg _ (n.keys.drop 5) _ i) (edg _ (n.keys.drop 5) _ (i + 1)) _ _
      rw [gB, gB, dD, dD, dD, show i + 1 + 5 = i + 5 + 1 by omega]
      exact e5 (i + 5) (by omega)
end Go.Proofs.YtnlolhlbpdmljaaGreatDoor
