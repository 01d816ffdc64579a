/-
  A map from numbers to truths, by the list of the numbers that it has.
  Conditions: none.
-/
import Derived.Test.YtnlolhlbpdmljaaGreatDoorNodA
import Derived.Maps.Own
import Derived.Maps.Views
import Derived.Lib.SlKeysI
namespace Go.Proofs.YtnlolhlbpdmljaaGreatDoor
open Go.ChangeShapes Go.WideShapes Go.RowKit Go.Maps

abbrev DU := DataW Unit
def kI (k : Nat) : Lit := .int .i64 (k : Int)
theorem kI_key (k : Nat) : WideAt.IsKeyLit (kI k) := trivial
theorem kI_wf {k : Nat} (h : k < 1000000) : (Lit.int .i64 (k : Int)).wf = true := by
  simp [Lit.wf, IntKind.min, IntKind.max, IntKind.signed, IntKind.bits]; omega
/-- Block b is a map that has just the numbers S, each true. -/
structure MapD (D : DU) (S : List Nat) : Prop where
  tidy : Tidy D
  nd : S.Nodup
  size : Maps.size D = S.length
  has : ∀ x : Int, Maps.has D (.int .i64 x) = true ↔ ∃ k ∈ S, x = (k : Int)
  at_ : ∀ k : Nat, D.atKey (kI k) (.lit (.bool false)) = .lit (.bool (decide (k ∈ S)))
  keys : ∀ es, D = .map es → ∀ p ∈ es, ∃ x, p.1 = .int .i64 x
def MapS (w : World) (b : Nat) (S : List Nat) : Prop := ∃ D : DU, w.ownsMap Tryz.prog 3 (plainElem Tryz.prog 4) b S.length D ∧ MapD D S
theorem MapD.nil : MapD (.map []) [] := by
  refine ⟨tidy_empty, List.nodup_nil, rfl, fun x => ?_, fun k => rfl, fun es h p hp => ?_⟩
  · constructor
    · intro h; cases h
    · rintro ⟨k, hk, _⟩; cases hk
  · injection h with h
    subst h
    cases hp
theorem kI_ne {k k' : Nat} (h : k ≠ k') : kI k ≠ kI k' := by
  intro e; unfold kI at e; injection e with _ e; omega
theorem MapD.put {D : DU} {S : List Nat} (h : MapD D S) {k : Nat} (hk : k ∉ S) : MapD (D.put (kI k) (.lit (.bool true))) (S ++ [k]) := by
  have hf : Maps.has D (kI k) = false := by
    cases hh : Maps.has D (kI k) with
    | false => rfl
    | true =>
      obtain ⟨k', hk', e⟩ := (h.has k).1 hh
      have : k = k' := by omega
      subst this
      exact absurd hk' hk
  refine ⟨h.tidy.put (kI_key k) _, ?_, ?_, fun x => ?_, fun k' => ?_, fun es he p hp => ?_⟩
  · rw [List.nodup_append]
    refine ⟨h.nd, by simp, fun a ha b hb e => ?_⟩
    rw [List.mem_singleton] at hb
    subst hb e
    exact hk ha
  · rw [size_put h.tidy, hf, if_neg (by simp), h.size, List.length_append]; rfl
  · by_cases e : x = (k : Int)
    · subst e
      have := has_put_same h.tidy.isMap (kI_key k) (.lit (.bool true))
      constructor
      · intro _; exact ⟨k, by simp, rfl⟩
      · intro _; exact this
    · have hne : Lit.int .i64 x ≠ kI k := fun e1 => by unfold kI at e1; injection e1 with _ e1; exact e e1
      rw [has_put_other hne, h.has]
      constructor
      · rintro ⟨k', h1, h2⟩; exact ⟨k', by simp [h1], h2⟩
      · rintro ⟨k', h1, h2⟩
        rw [List.mem_append, List.mem_singleton] at h1
        rcases h1 with h1 | h1
        · exact ⟨k', h1, h2⟩
        · subst h1; exact absurd h2 e
  · by_cases e : k' = k
    · subst e
      rw [atKey_put_same h.tidy.isMap (kI_key k')]
      simp
    · rw [atKey_put_other (kI_ne e), h.at_]
      simp [e]
  · obtain ⟨es0, h0, _⟩ := h.tidy
    have h1 := h.keys es0 h0
    subst h0
    have he' : DataW.map (DataW.insert (kI k, .lit (.bool true)) (es0.filter fun p => !p.1.sameKey (kI k))) = .map es := he
    injection he' with he'
    subst he'
    have key : ∀ (x : Lit × DU) (l : List (Lit × DU)) (p : Lit × DU), p ∈ DataW.insert x l → p = x ∨ p ∈ l := by
      intro x l
      induction l with
      | nil => intro p hp; simp [DataW.insert] at hp; exact .inl hp
      | cons y r ih =>
        intro p hp
        unfold DataW.insert at hp
        split at hp
        · rcases List.mem_cons.1 hp with h | h
          · exact .inl h
          · exact .inr h
        · rcases List.mem_cons.1 hp with h | h
          · exact .inr (by simp [h])
          · rcases ih p h with h | h
            · exact .inl h
            · exact .inr (by simp [h])
    rcases key _ _ p hp with rfl | h
    · exact ⟨k, rfl⟩
    · exact h1 p (List.mem_filter.1 h).1
theorem MapS.lt {w : World} {b : Nat} {S : List Nat} (h : MapS w b S) : b < w.heap.size := by obtain ⟨D, h1, _⟩ := h; exact h1.lt
theorem MapS.made (w : World) : MapS (w.alloc (.map #[] 0)) w.heap.size [] := ⟨_, World.ownsMap_made w _ _ _, MapD.nil⟩
theorem MapS.kept {w w' : World} {b : Nat} {S : List Nat} (h : MapS w b S) (e : w'.heap[b]? = w.heap[b]?) : MapS w' b S := by
  obtain ⟨D, ⟨es, clock, hb, F, hs, hD⟩, h2⟩ := h
  exact ⟨D, ⟨es, clock, e.trans hb, F, hs, hD⟩, h2⟩
theorem MapS.below {w w' : World} {b : Nat} {S : List Nat} (h : MapS w b S) (k : Below w.heap.size w w') : MapS w' b S := h.kept (k.block b h.lt)
/-- The block is a map's, of no type. -/
theorem MapS.obj {w : World} {b : Nat} {S : List Nat} (h : MapS w b S) : ∃ es clock, w.heap[b]? = some (.map es clock) := by
  obtain ⟨D, ⟨es, clock, hb, F, hs, hD⟩, h2⟩ := h; exact ⟨es, clock, hb⟩
theorem plainElem_bool_inv {P : Program} {e : TypeId} (he : P.underlying e = some .bool) {v : Value} {x : Bool} {ps : List MemPlace} (h : plainElem (H := Unit) P e v = some (.lit (.bool x), ps)) : v = .bool x := by
  unfold plainElem at h
  rw [he] at h
  cases v <;> simp at h
  rw [h.1]
theorem keyed3 : Keyed Tryz.prog 3 := int_keyed Tryz.underlying3
theorem MapS.look {w : World} {b : Nat} {S : List Nat} (h : MapS w b S) {k : Nat} (hk : k < 1000000) : (Instr.lookup 79 (.map (some b)) (.int .i64 (k : Int)) false).run Tryz.prog w = .ok (.bool (decide (k ∈ S))) w := by
  obtain ⟨D, h1, h2⟩ := h
  obtain ⟨v, ps, hrun, hv⟩ := h1.lookup keyed3 Tryz.underlying79 (Tryz.zeroValue4 w) (plainElem_bool Tryz.underlying4 false) (keyOf_int_mk Tryz.underlying3 (kI_wf hk))
  have e := h2.at_ k
  unfold kI at e
  rw [e] at hv
  have : v = .bool (decide (k ∈ S)) := plainElem_bool_inv Tryz.underlying4 hv
  rw [this] at hrun
  exact hrun
theorem MapS.put {w : World} {b : Nat} {S : List Nat} (h : MapS w b S) {k : Nat} (hk : k < 1000000) (hn : k ∉ S) (hS : S.length < 1000000) : ∃ w', (Instr.mapUpdate 79 (.map (some b)) (.int .i64 (k : Int)) (.bool true)).run Tryz.prog w = .ok () w' ∧ MapS w' b (S ++ [k]) ∧ w.grownBy w' (some b) := by
  obtain ⟨D, h1, h2⟩ := h
  obtain ⟨w', r0, r1, r2⟩ := h1.update keyed3 Tryz.underlying79 (by unfold maxLen; omega) (keyOf_int_mk Tryz.underlying3 (kI_wf hk)) (plainElem_bool Tryz.underlying4 true)
  exact ⟨w', r0, ⟨_, by rw [List.length_append]; exact r1, h2.put hn⟩, r2⟩
theorem MapS.perm {w : World} {b : Nat} {S : List Nat} (h : MapS w b S) : ∃ D : DU, w.ownsMap Tryz.prog 3 (plainElem Tryz.prog 4) b S.length D ∧ Maps.size D = S.length ∧ (S.map (fun k : Nat => (k : Int))).Perm (intKeys D) := by
  obtain ⟨D, h1, h2⟩ := h
  obtain ⟨es, he, hp⟩ := h2.tidy
  refine ⟨D, h1, h2.size, ?_⟩
  subst he
  refine perm_intKeys hp (h2.keys es rfl) ?_ (fun x => ?_)
  · exact List.pairwise_map.2 (h2.nd.imp (fun h e => h (by omega)))
  · rw [h2.has, List.mem_map]
    constructor
    · rintro ⟨k, h1, h2⟩; exact ⟨k, h1, h2.symm⟩
    · rintro ⟨k, h1, h2⟩; exact ⟨k, h1, h2.symm⟩
end Go.Proofs.YtnlolhlbpdmljaaGreatDoor
