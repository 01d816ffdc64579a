/-
  Trees of pages, in plain Lean: which pages are taken and left when a pair is put below a page.
  Conditions: none.
-/
import Derived.Test.YtnlolhlbpdmljaaGreatDoorTreQ
namespace Go.Proofs.YtnlolhlbpdmljaaGreatDoor

/-- Where keys are cut. -/
theorem cut_at {l : List Nat} (up : List.Pairwise (· < ·) l) (p : Nat → Bool) (dn : ∀ a b, a < b → p b = true → p a = true) : (∀ y ∈ l.take (l.countP p), p y = true) ∧ (∀ y ∈ l.drop (l.countP p), p y = false) := by
  induction l with
  | nil => exact ⟨fun y h => by simp at h, fun y h => by simp at h⟩
  | cons a l ih =>
    rw [List.pairwise_cons] at up
    cases ha : p a with
    | true =>
      rw [List.countP_cons_of_pos ha]
      refine ⟨fun y h => ?_, fun y h => ?_⟩
      · rw [List.take_succ_cons, List.mem_cons] at h
        rcases h with rfl | h
        · exact ha
        · exact (ih up.2).1 y h
      · rw [List.drop_succ_cons] at h
        exact (ih up.2).2 y h
    | false =>
      have hall : ∀ y ∈ l, p y = false := by
        intro y hy
        cases h : p y with
        | false => rfl
        | true => rw [dn a y (up.1 y hy) h] at ha; cases ha
      have h0 : l.countP p = 0 := List.countP_eq_zero.2 (fun y hy => by rw [hall y hy]; decide)
      rw [List.countP_cons_of_neg (by rw [ha]; decide), h0]
      refine ⟨fun y h => by simp at h, fun y h => ?_⟩
      rw [List.drop_zero, List.mem_cons] at h
      rcases h with rfl | h
      · exact ha
      · exact hall y h
theorem less_cut {l : List Nat} (up : List.Pairwise (· < ·) l) (x : Nat) : (∀ y ∈ l.take (lessN l x), y < x) ∧ (∀ y ∈ l.drop (lessN l x), x ≤ y) := by
  have := cut_at up (fun y => decide (y < x)) (fun a b h hb => by simp at hb ⊢; omega)
  refine ⟨fun y hy => by simpa using this.1 y hy, fun y hy => by have h := this.2 y hy; simp at h; omega⟩
theorem child_count {l : List Nat} (up : List.Pairwise (· < ·) l) (x : Nat) : childN l x = l.countP (fun y => decide (y ≤ x)) := by
  unfold childN lessN
  induction l with
  | nil => simp
  | cons a l ih =>
    rw [List.pairwise_cons] at up
    have ih := ih up.2
    rw [List.countP_cons, List.countP_cons]
    by_cases h1 : a < x
    · have : (x ∈ a :: l) ↔ x ∈ l := by rw [List.mem_cons]; exact ⟨fun h => h.resolve_left (by omega), .inr⟩
      have e : (if x ∈ a :: l then 1 else 0) = if x ∈ l then 1 else 0 := by
        by_cases hx : x ∈ l
        · rw [if_pos hx, if_pos (this.2 hx)]
        · rw [if_neg hx, if_neg (fun h => hx (this.1 h))]
      have d1 : decide (a < x) = true := decide_eq_true h1
      have d2 : decide (a ≤ x) = true := decide_eq_true (Nat.le_of_lt h1)
      rw [e, d1, d2]
      simp only [if_true]
      omega
    · have h0 : l.countP (fun y => decide (y ≤ x)) = 0 := List.countP_eq_zero.2 (fun y hy => by have := up.1 y hy; simp; omega)
      have h0' : l.countP (fun y => decide (y < x)) = 0 := List.countP_eq_zero.2 (fun y hy => by have := up.1 y hy; simp; omega)
      rw [h0, h0', if_neg (by simpa using h1)]
      by_cases h2 : a = x
      · subst h2; simp
      · have : ¬ x ∈ a :: l := by
          rw [List.mem_cons]
          rintro (h | h)
          · omega
          · have := up.1 x h; omega
        rw [if_neg this, if_neg (by simp; omega)]
theorem child_le {l : List Nat} (up : List.Pairwise (· < ·) l) (x : Nat) : childN l x ≤ l.length := by rw [child_count up]; exact List.countP_le_length
theorem child_edges {l : List Nat} (up : List.Pairwise (· < ·) l) {lo hi x : Nat} (h1 : lo ≤ x) (h2 : x < hi) : edg lo l hi (childN l x) ≤ x ∧ x < edg lo l hi (childN l x + 1) := by
  have hc := cut_at up (fun y => decide (y ≤ x)) (fun a b h hb => by simp at hb ⊢; omega)
  rw [← child_count up] at hc
  have hk := child_le up x
  generalize childN l x = k at hc hk
  refine ⟨?_, ?_⟩
  · cases k with
    | zero => rw [edg_zero]; exact h1
    | succ k =>
      rw [edg_succ (by omega), List.getD_eq_getElem?_getD, List.getElem?_eq_getElem (by omega)]
      have : l[k] ∈ l.take (k + 1) := List.mem_take_iff_getElem.2 ⟨k, by omega, rfl⟩
      simpa using hc.1 _ this
  · rcases Nat.lt_or_ge k l.length with h | h
    · rw [edg_succ h, List.getD_eq_getElem?_getD, List.getElem?_eq_getElem h]
      have : l[k] ∈ l.drop k := List.mem_drop_iff_getElem.2 ⟨0, by omega, by simp⟩
      have := hc.2 _ this
      simp at this ⊢; omega
    · rw [show k = l.length by omega, edg_last]; exact h2
/-- The edges stand on either side of a place. -/
theorem edg_sides {l : List Nat} (up : List.Pairwise (· < ·) l) {lo hi k : Nat} (hk : k ≤ l.length) : (∀ y ∈ l.take k, y ≤ edg lo l hi k) ∧ (∀ y ∈ l.drop k, edg lo l hi (k + 1) ≤ y) := by
  rw [List.pairwise_iff_getElem] at up
  refine ⟨fun y hy => ?_, fun y hy => ?_⟩
  · obtain ⟨j, hj, rfl⟩ := List.mem_take_iff_getElem.1 hy
    have hj' : j < k := by omega
    obtain ⟨q, rfl⟩ : ∃ q, k = q + 1 := ⟨k - 1, by omega⟩
    rw [edg_succ (by omega), List.getD_eq_getElem?_getD, List.getElem?_eq_getElem (by omega)]
    rcases Nat.lt_or_ge j q with h | h
    · exact Nat.le_of_lt (up j q (by omega) (by omega) h)
    · have : j = q := by omega
      subst this; exact Nat.le_refl _
  · obtain ⟨j, hj, rfl⟩ := List.mem_drop_iff_getElem.1 hy
    rw [edg_succ (by omega), List.getD_eq_getElem?_getD, List.getElem?_eq_getElem (by omega)]
    rcases Nat.eq_or_lt_of_le (Nat.zero_le j) with h | h
    · subst h; simp
    · exact Nat.le_of_lt (up k (k + j) (by omega) (by omega) (by omega))
theorem ins_rising {l : List Nat} (up : List.Pairwise (· < ·) l) {k g : Nat} (h1 : ∀ y ∈ l.take k, y < g) (h2 : ∀ y ∈ l.drop k, g < y) : List.Pairwise (· < ·) (ins l k g) := by
  unfold ins
  rw [List.pairwise_append, List.pairwise_cons]
  refine ⟨up.sublist (List.take_sublist _ _), ⟨h2, up.sublist (List.drop_sublist _ _)⟩, fun a ha b hb => ?_⟩
  rcases List.mem_cons.1 hb with rfl | hb
  · exact h1 a ha
  · exact Nat.lt_trans (h1 a ha) (h2 b hb)
theorem edg_bounds {l : List Nat} {lo hi k : Nat} (hl : ∀ y ∈ l, lo ≤ y ∧ y < hi) (hk : k ≤ l.length) : lo ≤ edg lo l hi k ∧ edg lo l hi (k + 1) ≤ hi := by
  refine ⟨?_, ?_⟩
  · cases k with
    | zero => exact Nat.le_refl _
    | succ k =>
      rw [edg_succ (by omega), List.getD_eq_getElem?_getD, List.getElem?_eq_getElem (by omega)]
      exact (hl _ (List.getElem_mem _)).1
  · rcases Nat.lt_or_ge k l.length with h | h
    · rw [edg_succ h, List.getD_eq_getElem?_getD, List.getElem?_eq_getElem h]
      exact Nat.le_of_lt (hl _ (List.getElem_mem _)).2
    · rw [show k = l.length by omega, edg_last]; exact Nat.le_refl _
/-- The children of a node, from what lies below it. -/
theorem Cont.kids {V : Nat → B8} {h lo hi K : Nat} {n : PN} {ps0 : List Nat} (hc : Cont V h lo hi n ps0 K) (hn : ps0.Nodup) : n.kids.Nodup ∧ ∀ k ∈ n.kids, 2 ≤ k ∧ k < 240 := by
  rcases hc with ⟨_, e, _⟩ | ⟨_, pss, Ks, e1, e2, rfl, rfl, e5⟩
  · rw [e]; exact ⟨List.nodup_nil, fun k h => by cases h⟩
  · have at_ : ∀ i (hi : i < n.kids.length), n.kids[i] = n.kids.getD i 0 := fun i hi => by rw [List.getD_eq_getElem?_getD, List.getElem?_eq_getElem hi]; rfl
    refine ⟨?_, ?_⟩
    · rw [List.Nodup, List.pairwise_iff_getElem]
      intro i j hi hj hij he
      rw [List.Nodup, List.pairwise_flatten] at hn
      have hd := List.pairwise_iff_getElem.1 hn.2 i j (by omega) (by omega) hij
      have mi := (e5 i hi).page.1
      have mj := (e5 j hj).page.1
      rw [← at_ i hi, List.getD_eq_getElem?_getD, List.getElem?_eq_getElem (by omega)] at mi
      rw [← at_ j hj, ← he, List.getD_eq_getElem?_getD, List.getElem?_eq_getElem (by omega)] at mj
      exact hd _ mi _ mj rfl
    · intro k hk
      obtain ⟨i, hi, rfl⟩ := List.mem_iff_getElem.1 hk
      rw [at_ i hi]
      exact (e5 i hi).page.2
/-- Which pages are taken. -/
structure Sets0 (U Fr Go : List Nat) : Prop where
  su : Set30 U
  sf : Set30 Fr
  sg : Set30 Go
  fu : ∀ p, p < 240 → mem Fr p = true → mem U p = false
  gu : ∀ p, p < 240 → mem Go p = true → mem U p = true
  u0 : mem U 0 = false ∧ mem U 1 = false
  f0 : mem Fr 0 = false ∧ mem Fr 1 = false
def alive (U Fr Go : List Nat) (p : Nat) : Prop := (mem U p = true ∨ mem Fr p = true) ∧ mem Go p = false
structure Turn (U Fr Go : List Nat) (V : Nat → B8) (ps : List Nat) (Fr' Go' : List Nat) (V' : Nat → B8) (ps' : List Nat) : Prop where
  s : Sets0 U Fr' Go'
  same : ∀ p, p < 240 → mem U p = true ∨ mem Fr p = true ∨ p < 2 → V' p = V p
  more : ∀ p, p < 240 → mem Fr p = true → mem Fr' p = true
  live : ∀ p, p < 240 → (alive U Fr' Go' p ↔ (alive U Fr Go p ∧ p ∉ ps) ∨ p ∈ ps')
  fresh : ∀ p ∈ ps', p ∈ ps ∨ (mem U p = false ∧ mem Fr p = false)
def Pre (U Go ps : List Nat) : Prop := ∀ p ∈ ps, p < 240 ∧ 2 ≤ p ∧ mem U p = true ∧ mem Go p = false
theorem mem_with_nat {ns : List Nat} (h : Set30 ns) {n i : Nat} (hn : n < 240) (hi : i < 240) : mem (withP ns (n : Int)) i = (mem ns i || decide (i = n)) := by
  rw [mem_with h hi, inB_nat hn, Int.toNat_natCast, Bool.true_and]
theorem Turn.drop {U Fr Go : List Nat} (s : Sets0 U Fr Go) (V : Nat → B8) {at_ : Nat} (h : at_ < 240) (hu : mem U at_ = true) : Turn U Fr Go V [at_] Fr (withP Go (at_ : Int)) V [] := by
  refine ⟨⟨s.su, s.sf, s.sg.with _, s.fu, fun p hp hm => ?_, s.u0, s.f0⟩, fun _ _ _ => rfl, fun _ _ h => h, fun p hp => ?_, fun p hp => by cases hp⟩
  · rw [mem_with_nat s.sg h hp, Bool.or_eq_true, decide_eq_true_eq] at hm
    rcases hm with hm | rfl
    · exact s.gu p hp hm
    · exact hu
  · unfold alive
    rw [mem_with_nat s.sg h hp, Bool.or_eq_false_iff, decide_eq_false_iff_not, List.mem_singleton]
    constructor
    · rintro ⟨a, b, c⟩; exact .inl ⟨⟨a, b⟩, c⟩
    · rintro (⟨⟨a, b⟩, c⟩ | h)
      · exact ⟨a, b, c⟩
      · cases h
theorem Turn.alloc {U Fr Go : List Nat} {V : Nat → B8} {ps Fr1 Go1 : List Nat} {V1 : Nat → B8} {ps1 : List Nat} (t : Turn U Fr Go V ps Fr1 Go1 V1 ps1) {i : Nat} (hi : FreeAt (bothP U Fr1) i) (l : B8) {ps2 : List Nat} (hp : ∀ p, p ∈ ps2 ↔ p = i ∨ p ∈ ps1) : Turn U Fr Go V ps (withP Fr1 (i : Int)) Go1 (upd V1 i l) ps2 := by
  obtain ⟨h2, h240, hm, _⟩ := hi
  rw [mem_both t.s.su t.s.sf i h240, Bool.or_eq_false_iff] at hm
  have hg : mem Go1 i = false := by
    cases h : mem Go1 i with
    | false => rfl
    | true => rw [t.s.gu i h240 h] at hm; cases hm.1
  refine ⟨⟨t.s.su, t.s.sf.with _, t.s.sg, fun p hp hm' => ?_, t.s.gu, t.s.u0, ?_⟩, fun p hp hm' => ?_, fun p hp hm' => ?_, fun p hp' => ?_, fun p hp' => ?_⟩
  · rw [mem_with_nat t.s.sf h240 hp, Bool.or_eq_true, decide_eq_true_eq] at hm'
    rcases hm' with hm' | rfl
    · exact t.s.fu p hp hm'
    · exact hm.1
  · rw [mem_with_nat t.s.sf h240 (by omega), mem_with_nat t.s.sf h240 (by omega), t.s.f0.1, t.s.f0.2]
    simp; omega
  · have : p ≠ i := by
      rintro rfl
      rcases hm' with h | h | h
      · rw [hm.1] at h; cases h
      · rw [t.more p h240 h] at hm; cases hm.2
      · omega
    unfold upd
    rw [if_neg this]
    exact t.same p hp hm'
  · rw [mem_with_nat t.s.sf h240 hp, t.more p hp hm']; rfl
  · have := t.live p hp'
    unfold alive at this ⊢
    rw [mem_with_nat t.s.sf h240 hp', Bool.or_eq_true, decide_eq_true_eq, hp]
    constructor
    · rintro ⟨a | a | rfl, b⟩
      · rcases this.1 ⟨.inl a, b⟩ with h | h
        · exact .inl h
        · exact .inr (.inr h)
      · rcases this.1 ⟨.inr a, b⟩ with h | h
        · exact .inl h
        · exact .inr (.inr h)
      · exact .inr (.inl rfl)
    · rintro (h | rfl | h)
      · obtain ⟨a | a, b⟩ := this.2 (.inl h)
        · exact ⟨.inl a, b⟩
        · exact ⟨.inr (.inl a), b⟩
      · exact ⟨.inr (.inr rfl), hg⟩
      · obtain ⟨a | a, b⟩ := this.2 (.inr h)
        · exact ⟨.inl a, b⟩
        · exact ⟨.inr (.inl a), b⟩
  · rcases (hp p).1 hp' with rfl | h
    · right
      refine ⟨hm.1, ?_⟩
      cases h : mem Fr p with
      | false => rfl
      | true => rw [t.more p h240 h] at hm; cases hm.2
    · exact t.fresh p h
theorem Turn.inner {U Fr Go : List Nat} {V : Nat → B8} {at_ : Nat} {Go1 : List Nat} (t : Turn U Fr Go V [at_] Fr Go1 V []) {psk Fr2 Go2 : List Nat} {V2 : Nat → B8} {psk' : List Nat} (t2 : Turn U Fr Go1 V psk Fr2 Go2 V2 psk') {A B : List Nat}
    (hp : Pre U Go (at_ :: (A ++ (psk ++ B)))) (hn : (at_ :: (A ++ (psk ++ B))).Nodup) : Turn U Fr Go V (at_ :: (A ++ (psk ++ B))) Fr2 Go2 V2 (A ++ (psk' ++ B)) := by
  have hn1 := (List.nodup_cons.1 hn).1
  have hn2 := (List.nodup_cons.1 hn).2
  rw [List.nodup_append] at hn2
  have hn3 := hn2.2.1
  rw [List.nodup_append] at hn3
  refine ⟨t2.s, t2.same, t2.more, fun p hp' => ?_, fun p hp' => ?_⟩
  · rw [t2.live p hp', t.live p hp']
    constructor
    · rintro (⟨⟨a, b⟩ | a, c⟩ | h)
      · by_cases hA : p ∈ A
        · exact .inr (by simp [hA])
        · by_cases hB : p ∈ B
          · exact .inr (by simp [hB])
          · exact .inl ⟨a, by simp at b ⊢; exact ⟨b, hA, c, hB⟩⟩
      · cases a
      · exact .inr (by simp [h])
    · rintro (⟨a, b⟩ | h)
      · simp at b
        exact .inl ⟨.inl ⟨a, by simpa using b.1⟩, b.2.2.1⟩
      · rcases List.mem_append.1 h with h | h
        · obtain ⟨q1, q2, q3, q4⟩ := hp p (by simp [h])
          refine .inl ⟨.inl ⟨⟨.inl q3, q4⟩, ?_⟩, ?_⟩
          · rintro hx; rw [List.mem_singleton] at hx; subst hx; exact hn1 (by simp [h])
          · intro hx; exact hn2.2.2 p h p (by simp [hx]) rfl
        · rcases List.mem_append.1 h with h | h
          · exact .inr h
          · obtain ⟨q1, q2, q3, q4⟩ := hp p (by simp [h])
            refine .inl ⟨.inl ⟨⟨.inl q3, q4⟩, ?_⟩, ?_⟩
            · rintro hx; rw [List.mem_singleton] at hx; subst hx; exact hn1 (by simp [h])
            · intro hx; exact hn3.2.2 p hx p h rfl
  · rcases List.mem_append.1 hp' with h | h
    · exact .inl (by simp [h])
    · rcases List.mem_append.1 h with h | h
      · rcases t2.fresh p h with h | h
        · exact .inl (by simp [h])
        · exact .inr h
      · exact .inl (by simp [h])
/-- No page twice. -/
theorem Turn.nodup {U Fr Go : List Nat} {V : Nat → B8} {psk Fr2 Go2 : List Nat} {V2 : Nat → B8} {psk' : List Nat} (t2 : Turn U Fr Go V psk Fr2 Go2 V2 psk') {A B : List Nat} (hA : ∀ p ∈ A ++ B, mem U p = true) (hn : (A ++ (psk ++ B)).Nodup) (hn' : psk'.Nodup) : (A ++ (psk' ++ B)).Nodup := by
  rw [List.nodup_append, List.nodup_append] at hn ⊢
  have key : ∀ p ∈ psk', p ∈ A ++ B → p ∈ psk := fun p h1 h2 => (t2.fresh p h1).resolve_right (fun h => by rw [hA p h2] at h; cases h.1)
  refine ⟨hn.1, ⟨hn', hn.2.1.2.1, fun a ha b hb e => ?_⟩, fun a ha b hb e => ?_⟩
  · subst e; exact hn.2.1.2.2 a (key a ha (by simp [hb])) a hb rfl
  · subst e
    rcases List.mem_append.1 hb with h | h
    · exact hn.2.2 a ha a (by simp [key a h (by simp [ha])]) rfl
    · exact hn.2.2 a ha a (by simp [h]) rfl
/-- A pair was put below a page. -/
def Grew (U Fr Go : List Nat) (V : Nat → B8) (h mn lo hi : Nat) (ps : List Nat) (K : Nat) (V' : Nat → B8) (Fr' Go' : List Nat) (l r key : Nat) (two : Bool) : Prop :=
  ∃ ps' K', Turn U Fr Go V ps Fr' Go' V' ps' ∧ cnt (bothP U Fr') 240 ≤ cnt (bothP U Fr) 240 + 2 * h ∧ K' ≤ K + 1 ∧
    ((two = false ∧ PTree V' h mn l lo hi ps' K') ∨ (two = true ∧ lo < key ∧ key < hi ∧ ps'.Nodup ∧ ∃ ps1 ps2 K1 K2, ps' = ps1 ++ ps2 ∧ K' = K1 + K2 ∧ PTree V' h 3 l lo key ps1 K1 ∧ PTree V' h 3 r key hi ps2 K2))
theorem Turn.apart {U Fr Go : List Nat} {V : Nat → B8} {ps Fr1 Go1 : List Nat} {V1 : Nat → B8} {ps1 : List Nat} (t : Turn U Fr Go V ps Fr1 Go1 V1 ps1) (h240 : ∀ p ∈ ps1, p < 240) {i : Nat} (hi : FreeAt (bothP U Fr1) i) : i ∉ ps1 := by
  intro h
  have := (t.live i (h240 i h)).2 (.inr h)
  obtain ⟨_, h240, hm, _⟩ := hi
  rw [mem_both t.s.su t.s.sf i h240, Bool.or_eq_false_iff] at hm
  rcases this.1 with a | a
  · rw [hm.1] at a; cases a
  · rw [hm.2] at a; cases a
theorem cnt_alloc {U Fr : List Nat} (su : Set30 U) (sf : Set30 Fr) {i : Nat} (hi : FreeAt (bothP U Fr) i) : cnt (bothP U (withP Fr (i : Int))) 240 = cnt (bothP U Fr) 240 + 1 := by
  obtain ⟨h2, h240, hm, _⟩ := hi
  have : cnt (bothP U (withP Fr (i : Int))) 240 = cnt (withP (bothP U Fr) (i : Int)) 240 := cnt_congr (fun p hp => by
    rw [mem_both su (sf.with _) p hp, mem_with_nat sf h240 hp, mem_with_nat (su.both sf) h240 hp, mem_both su sf p hp, Bool.or_assoc])
  rw [this, cnt_with_new (su.both sf) h240 hm (Nat.le_refl _), if_pos h240]
theorem Cont.range {V : Nat → B8} {h lo hi K : Nat} {n : PN} {ps0 : List Nat} (hc : Cont V h lo hi n ps0 K) : ∀ p ∈ ps0, 2 ≤ p ∧ p < 240 := by
  intro p hp
  rcases hc with ⟨_, _, rfl, _⟩ | ⟨_, pss, Ks, e1, e2, rfl, rfl, e5⟩
  · cases hp
  · obtain ⟨i, hi, h⟩ := mem_flatten_getD hp
    exact (e5 i (by omega)).range p h
theorem Grew.one {U Fr Go : List Nat} {V : Nat → B8} {h mn lo hi : Nat} {ps : List Nat} {K : Nat} {V1 : Nat → B8} {Fr1 Go1 ps1 : List Nat} {n : PN} {K1 i : Nat} (t : Turn U Fr Go V ps Fr1 Go1 V1 ps1) (hc : Cont V1 h lo hi n ps1 K1) (hn : ps1.Nodup) (hr : NRight n) (hk : ∀ k ∈ n.keys, lo ≤ k ∧ k < hi) (hm : mn ≤ n.keys.length ∧ 1 ≤ n.keys.length)
    (hfi : FreeAt (bothP U Fr1) i) (hcnt : cnt (bothP U Fr1) 240 ≤ cnt (bothP U Fr) 240 + 2 * h) (hK : K1 ≤ K + 1) : Grew U Fr Go V (h + 1) mn lo hi ps K (upd V1 i (laidP 2 (nlay n))) (withP Fr1 (i : Int)) Go1 i 0 0 false := by
  have hap := t.apart (fun p hp => (hc.range p hp).2) hfi
  refine ⟨i :: ps1, K1, t.alloc hfi _ (fun p => List.mem_cons), ?_, hK, .inl ⟨rfl, n, ps1, hr, ?_, ⟨hfi.1, hfi.2.1⟩, hm, hk, rfl, List.nodup_cons.2 ⟨hap, hn⟩, hc.congr (fun p hp => ?_)⟩⟩
  · rw [cnt_alloc t.s.su t.s.sf hfi]; omega
  · unfold upd; rw [if_pos rfl]
  · unfold upd; rw [if_neg (fun e => hap (by rw [← e]; exact hp))]
theorem Grew.two {U Fr Go : List Nat} {V : Nat → B8} {h mn lo hi : Nat} {ps : List Nat} {K : Nat} {V1 : Nat → B8} {Fr1 Go1 ps1 : List Nat} {n : PN} {K1 i j : Nat} (t : Turn U Fr Go V ps Fr1 Go1 V1 ps1) (hc : Cont V1 h lo hi n ps1 K1) (hn : ps1.Nodup) (hr : NBig n) (hk : ∀ k ∈ n.keys, lo ≤ k ∧ k < hi)
    (hfi : FreeAt (bothP U Fr1) i) (hfj : FreeAt (bothP U (withP Fr1 (i : Int))) j) (hcnt : cnt (bothP U Fr1) 240 ≤ cnt (bothP U Fr) 240 + 2 * h) (hK : K1 ≤ K + 1) : Grew U Fr Go V (h + 1) mn lo hi ps K (upd (upd V1 i (laidP 2 (nlay (splitA n)))) j (laidP 2 (nlay (splitB n)))) (withP (withP Fr1 (i : Int)) (j : Int)) Go1 i j (n.keys.getD 4 0) true := by
  have hl := hr.len
  have hapi := t.apart (fun p hp => (hc.range p hp).2) hfi
  have t1 := t.alloc hfi (laidP 2 (nlay (splitA n))) (ps2 := i :: ps1) (fun p => List.mem_cons)
  have hr1 : ∀ p ∈ i :: ps1, p < 240 := fun p hp => by
    rcases List.mem_cons.1 hp with rfl | hp
    · exact hfi.2.1
    · exact (hc.range p hp).2
  have hapj := t1.apart hr1 hfj
  rw [List.mem_cons, not_or] at hapj
  obtain ⟨pA, pB, KA, KB, rfl, rfl, cA, cB⟩ := hc.parted hr
  rw [List.mem_append, not_or] at hapi
  rw [List.mem_append, not_or] at hapj
  rw [List.nodup_append] at hn
  have hk4 : n.keys = n.keys.take 4 ++ n.keys.getD 4 0 :: n.keys.drop 5 := list_at 0 (by omega)
  have g4 : n.keys.getD 4 0 ∈ n.keys := by
    rw [List.getD_eq_getElem?_getD, List.getElem?_eq_getElem (by omega)]; exact List.getElem_mem _
  have up := hr.up
  have up' := hr.up
  rw [hk4, List.pairwise_append, List.pairwise_cons] at up'
  obtain ⟨_, ⟨q1, _⟩, q2⟩ := up'
  have kA : ∀ k ∈ (splitA n).keys, lo ≤ k ∧ k < n.keys.getD 4 0 := by
    intro k h
    have h : k ∈ n.keys.take 4 := by unfold splitA at h; split at h <;> exact h
    exact ⟨(hk k (List.mem_of_mem_take h)).1, q2 k h _ (List.mem_cons_self ..)⟩
  have kB : ∀ k ∈ (splitB n).keys, n.keys.getD 4 0 ≤ k ∧ k < hi := by
    intro k h
    have h : k ∈ n.keys.getD 4 0 :: n.keys.drop 5 := by
      unfold splitB at h
      split at h
      · have : n.keys.drop 4 = n.keys.getD 4 0 :: n.keys.drop 5 := by
          rw [List.getD_eq_getElem?_getD, List.getElem?_eq_getElem (by omega)]
          exact List.drop_eq_getElem_cons (by omega)
        rw [← this]; exact h
      · exact List.mem_cons_of_mem _ h
    rcases List.mem_cons.1 h with rfl | h
    · exact ⟨Nat.le_refl _, (hk _ g4).2⟩
    · exact ⟨Nat.le_of_lt (q1 k h), (hk k (List.mem_of_mem_drop h)).2⟩
  have lA : (splitA n).keys.length = 4 := by unfold splitA; split <;> simp <;> omega
  have lB : 3 ≤ (splitB n).keys.length := by unfold splitB; split <;> simp <;> omega
  have hij : j ≠ i := hapj.1
  refine ⟨(i :: pA) ++ (j :: pB), KA + KB, t1.alloc hfj _ (fun p => ?_), ?_, hK, .inr ⟨rfl, ?_, (hk _ g4).2, ?_, i :: pA, j :: pB, KA, KB, rfl, rfl, ?_, ?_⟩⟩
  · simp only [List.mem_append, List.mem_cons]
    constructor
    · rintro ((h | h) | (h | h))
      · exact .inr (.inl h)
      · exact .inr (.inr (.inl h))
      · exact .inl h
      · exact .inr (.inr (.inr h))
    · rintro (h | h | h | h)
      · exact .inr (.inl h)
      · exact .inl (.inl h)
      · exact .inl (.inr h)
      · exact .inr (.inr h)
  · rw [cnt_alloc t1.s.su t1.s.sf hfj, cnt_alloc t.s.su t.s.sf hfi]; omega
  · have h0 : n.keys.getD 0 0 ∈ n.keys.take 4 := by
      rw [List.getD_eq_getElem?_getD, List.getElem?_eq_getElem (by omega)]
      exact List.mem_take_iff_getElem.2 ⟨0, by omega, rfl⟩
    have := q2 _ h0 _ (List.mem_cons_self ..)
    have := (hk _ (List.mem_of_mem_take h0)).1
    omega
  · rw [List.nodup_append, List.nodup_cons, List.nodup_cons]
    refine ⟨⟨hapi.1, hn.1⟩, ⟨hapj.2.2, hn.2.1⟩, fun a ha b hb e => ?_⟩
    subst e
    rcases List.mem_cons.1 ha with rfl | ha
    · rcases List.mem_cons.1 hb with e | hb
      · exact hij e.symm
      · exact hapi.2 hb
    · rcases List.mem_cons.1 hb with rfl | hb
      · exact hapj.2.1 ha
      · exact hn.2.2 a ha a hb rfl
  · refine ⟨splitA n, pA, hr.rightA, ?_, ⟨hfi.1, hfi.2.1⟩, by omega, kA, rfl, List.nodup_cons.2 ⟨hapi.1, hn.1⟩, cA.congr (fun p hp => ?_)⟩
    · unfold upd; rw [if_neg (fun e => hij e.symm), if_pos rfl]
    · unfold upd; rw [if_neg (fun e => hapj.2.1 (by rw [← e]; exact hp)), if_neg (fun e => hapi.1 (by rw [← e]; exact hp))]
  · refine ⟨splitB n, pB, hr.rightB, ?_, ⟨hfj.1, hfj.2.1⟩, by omega, kB, rfl, List.nodup_cons.2 ⟨hapj.2.2, hn.2.1⟩, cB.congr (fun p hp => ?_)⟩
    · unfold upd; rw [if_pos rfl]
    · unfold upd; rw [if_neg (fun e => hapj.2.2 (by rw [← e]; exact hp)), if_neg (fun e => hapi.2 (by rw [← e]; exact hp))]
end Go.Proofs.YtnlolhlbpdmljaaGreatDoor
