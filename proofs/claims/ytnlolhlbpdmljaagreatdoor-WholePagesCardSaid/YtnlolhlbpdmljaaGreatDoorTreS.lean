/-
  Trees of pages, in plain Lean: a node that was turned, before it is laid; and its pages made.
  Conditions: there is room.
-/
import Derived.Test.YtnlolhlbpdmljaaGreatDoorTreR
namespace Go.Proofs.YtnlolhlbpdmljaaGreatDoor
open Go.ChangeShapes Go.WideShapes Go.RowKit

/-- A node that is turned, but has no page yet. -/
def Mid (U Fr Go : List Nat) (V : Nat → B8) (h mn lo hi : Nat) (ps : List Nat) (K : Nat) (Fr1 Go1 : List Nat) (V1 : Nat → B8) (n : PN) : Prop :=
  ∃ ps1 K1, Turn U Fr Go V ps Fr1 Go1 V1 ps1 ∧ Cont V1 h lo hi n ps1 K1 ∧ ps1.Nodup ∧ (NRight n ∨ NBig n) ∧ (∀ k ∈ n.keys, lo ≤ k ∧ k < hi) ∧ (mn ≤ n.keys.length ∧ 1 ≤ n.keys.length) ∧ cnt (bothP U Fr1) 240 ≤ cnt (bothP U Fr) 240 + 2 * h ∧ K1 ≤ K + 1
theorem less_at {l : List Nat} (up : List.Pairwise (· < ·) l) {x : Nat} (hx : x ∈ l) : lessN l x < l.length := by
  rcases Nat.lt_or_ge (lessN l x) l.length with h | h
  · exact h
  · have := (less_cut up x).1 x (by rw [List.take_of_length_le h]; exact hx)
    omega
theorem leaf_set {n : PN} (hr : NRight n) (hl : n.kids = []) {k : Nat} {b : B8} (hb : b.length = 12) : NRight ⟨n.keys, n.vals.set k b, n.kids⟩ := by
  refine ⟨hr.keys, ?_⟩
  rcases hr.shape with ⟨e, h1, h2⟩ | ⟨_, _, h3, _⟩
  · refine .inl ⟨e, by simpa using h1, fun v hv => ?_⟩
    rcases List.mem_or_eq_of_mem_set hv with h | h
    · exact h2 v h
    · rw [h]; exact hb
  · rw [hl] at h3; simp at h3
theorem leaf_ins {n : PN} (hr : NRight n) (hl : n.kids = []) {x : Nat} (hx : x ∉ n.keys) (hx32 : x ≤ 4294967295) {b : B8} (hb : b.length = 12) : NRight ⟨ins n.keys (lessN n.keys x) x, ins n.vals (lessN n.keys x) b, n.kids⟩ ∨ NBig ⟨ins n.keys (lessN n.keys x) x, ins n.vals (lessN n.keys x) b, n.kids⟩ := by
  have h7 := hr.keys.1
  have up : List.Pairwise (· < ·) (ins n.keys (lessN n.keys x) x) := ins_rising hr.keys.2.2 (less_cut hr.keys.2.2 x).1 (fun y hy => by
    have h1 := (less_cut hr.keys.2.2 x).2 y hy
    have : y ≠ x := fun e => hx (by rw [← e]; exact List.mem_of_mem_drop hy)
    omega)
  have le : ∀ k ∈ ins n.keys (lessN n.keys x) x, k ≤ 4294967295 := fun k hk => by
    rcases mem_ins.1 hk with rfl | h
    · exact hx32
    · exact hr.keys.2.1 k h
  rcases hr.shape with ⟨e, h1, h2⟩ | ⟨_, _, h3, _⟩
  · have hv : ∀ v ∈ ins n.vals (lessN n.keys x) b, v.length = 12 := fun v hv => by
      rcases mem_ins.1 hv with rfl | h
      · exact hb
      · exact h2 v h
    rcases Nat.lt_or_ge n.keys.length 7 with h | h
    · exact .inl ⟨⟨by rw [ins_length]; omega, le, up⟩, .inl ⟨e, by simp only [ins_length, h1], hv⟩⟩
    · exact .inr ⟨by rw [ins_length]; omega, le, up, .inl ⟨e, by simp only [ins_length, h1]; omega, hv⟩⟩
  · rw [hl] at h3; simp at h3
section
variable {U Fr Go : List Nat} {V : Nat → B8} {mn lo hi at_ K : Nat} {n : PN}
theorem Mid.set (s : Sets0 U Fr Go) (h240 : at_ < 240) (hu : mem U at_ = true) (hr : NRight n) (hl : n.kids = []) (hk : ∀ k ∈ n.keys, lo ≤ k ∧ k < hi) (hm : mn ≤ n.keys.length ∧ 1 ≤ n.keys.length) (hK : K = n.keys.length) {k : Nat} {b : B8} (hb : b.length = 12) :
    Mid U Fr Go V 0 mn lo hi [at_] K Fr (withP Go (at_ : Int)) V ⟨n.keys, n.vals.set k b, n.kids⟩ :=
  ⟨[], K, Turn.drop s V h240 hu, .inl ⟨rfl, hl, rfl, hK⟩, List.nodup_nil, .inl (leaf_set hr hl hb), hk, hm, by omega, by omega⟩
theorem Mid.put (s : Sets0 U Fr Go) (h240 : at_ < 240) (hu : mem U at_ = true) (hr : NRight n) (hl : n.kids = []) (hk : ∀ k ∈ n.keys, lo ≤ k ∧ k < hi) (hm : mn ≤ n.keys.length ∧ 1 ≤ n.keys.length) (hK : K = n.keys.length) {x : Nat} (hx : x ∉ n.keys) (hx1 : lo ≤ x ∧ x < hi) (hx32 : x ≤ 4294967295) {b : B8} (hb : b.length = 12) :
    Mid U Fr Go V 0 mn lo hi [at_] K Fr (withP Go (at_ : Int)) V ⟨ins n.keys (lessN n.keys x) x, ins n.vals (lessN n.keys x) b, n.kids⟩ :=
  ⟨[], K + 1, Turn.drop s V h240 hu, .inl ⟨rfl, hl, rfl, by show K + 1 = (ins _ _ _).length; rw [ins_length, hK]⟩, List.nodup_nil, leaf_ins hr hl hx hx32 hb, fun k h => by
    rcases mem_ins.1 h with rfl | h
    · exact hx1
    · exact hk k h, by show mn ≤ (ins _ _ _).length ∧ 1 ≤ (ins _ _ _).length; rw [ins_length]; omega, by omega, by omega⟩
/-- A child was turned: then its node is. -/
theorem Mid.child (s : Sets0 U Fr Go) {h : Nat} {ps0 : List Nat} (hpre : Pre U Go (at_ :: ps0)) (hnd : (at_ :: ps0).Nodup) (hr : NRight n) (hc : Cont V h lo hi n ps0 K) (hl : n.kids ≠ []) (hk : ∀ k ∈ n.keys, lo ≤ k ∧ k < hi) (hm : mn ≤ n.keys.length ∧ 1 ≤ n.keys.length) {x : Nat} (hx1 : lo ≤ x ∧ x < hi) :
    ∃ psk Kk, PTree V h 3 (n.kids.getD (childN n.keys x) 0) (edg lo n.keys hi (childN n.keys x)) (edg lo n.keys hi (childN n.keys x + 1)) psk Kk ∧ (edg lo n.keys hi (childN n.keys x) ≤ x ∧ x < edg lo n.keys hi (childN n.keys x + 1)) ∧ Sets0 U Fr (withP Go (at_ : Int)) ∧ Pre U (withP Go (at_ : Int)) psk ∧ childN n.keys x < n.kids.length ∧
      ∀ V' Fr' Go' l r key two, Grew U Fr (withP Go (at_ : Int)) V h 3 (edg lo n.keys hi (childN n.keys x)) (edg lo n.keys hi (childN n.keys x + 1)) psk Kk V' Fr' Go' l r key two →
        (two = false → Mid U Fr Go V h mn lo hi (at_ :: ps0) K Fr' Go' V' ⟨n.keys, n.vals, n.kids.set (childN n.keys x) l⟩) ∧
        (two = true → Mid U Fr Go V h mn lo hi (at_ :: ps0) K Fr' Go' V' ⟨ins n.keys (childN n.keys x) key, n.vals, ins (n.kids.set (childN n.keys x) l) (childN n.keys x + 1) r⟩) := by
  have up := hr.keys.2.2
  have hkl := child_le up x
  have hed := child_edges up hx1.1 hx1.2
  obtain ⟨v0, h1k, hkk⟩ : n.vals = [] ∧ 1 ≤ n.keys.length ∧ n.kids.length = n.keys.length + 1 := by
    rcases hr.shape with ⟨e, _⟩ | ⟨e, e2, e3, _⟩
    · exact absurd e hl
    · exact ⟨e, e2, e3⟩
  have h7 := hr.keys.1
  have hsd := edg_sides (lo := lo) (hi := hi) up hkl
  have hbd := edg_bounds hk hkl
  generalize childN n.keys x = k at hkl hed hsd hbd ⊢
  obtain ⟨psk, Kk, A, B, hT, rfl, _, _, hone, htwo⟩ := hc.child hl k (by omega) hkl
  have hat := hpre at_ (List.mem_cons_self ..)
  have tD := Turn.drop s V hat.1 hat.2.2.1
  have hne : ∀ p ∈ A ++ (psk ++ B), p ≠ at_ := fun p hp e => (List.nodup_cons.1 hnd).1 (by rw [← e]; exact hp)
  have hpk : Pre U (withP Go (at_ : Int)) psk := fun p hp => by
    obtain ⟨q1, q2, q3, q4⟩ := hpre p (by simp [hp])
    refine ⟨q1, q2, q3, ?_⟩
    rw [mem_with_nat s.sg hat.1 q1, q4, Bool.false_or]
    exact decide_eq_false (hne p (by simp [hp]))
  refine ⟨psk, Kk, hT, hed, tD.s, hpk, by omega, ?_⟩
  rintro V' Fr' Go' l r key two ⟨ps', K', t2, hcn, hK', hres⟩
  have hsame : ∀ p ∈ A ++ (psk ++ B), V' p = V p := fun p hp => by
    obtain ⟨q1, q2, q3, q4⟩ := hpre p (List.mem_cons_of_mem _ hp)
    exact t2.same p q1 (.inl q3)
  have tI := tD.inner t2 hpre hnd
  have hAB : ∀ p ∈ A ++ B, mem U p = true := fun p hp => (hpre p (by
    rcases List.mem_append.1 hp with h | h
    · simp [h]
    · simp [h])).2.2.1
  refine ⟨fun h2 => ?_, fun h2 => ?_⟩
  · rcases hres with ⟨_, hres⟩ | ⟨h3, _⟩
    · obtain ⟨K2, eK, hC⟩ := hone V' l ps' K' hsame hres
      have hnd' := t2.nodup hAB (List.nodup_cons.1 hnd).2 hres.nodup
      have hkd := hC.kids hnd'
      exact ⟨_, K2, tI, hC, hnd', .inl ⟨hr.keys, .inr ⟨v0, h1k, by show (n.kids.set k l).length = _; rw [List.length_set, hkk], hkd.2, hkd.1⟩⟩, hk, hm, hcn, by omega⟩
    · rw [h2] at h3; cases h3
  · rcases hres with ⟨h3, _⟩ | ⟨_, hk1, hk2, hnd2, ps1, ps2, K1, K2, rfl, rfl, hP1, hP2⟩
    · rw [h2] at h3; cases h3
    · obtain ⟨K3, eK, hC⟩ := htwo V' l r key ps1 ps2 K1 K2 hsame hP1 hP2
      have hnd' := t2.nodup hAB (List.nodup_cons.1 hnd).2 hnd2
      have hkd := hC.kids hnd'
      have up' : List.Pairwise (· < ·) (ins n.keys k key) := ins_rising up (fun y hy => Nat.lt_of_le_of_lt (hsd.1 y hy) hk1) (fun y hy => Nat.lt_of_lt_of_le hk2 (hsd.2 y hy))
      have hrange : ∀ y ∈ ins n.keys k key, lo ≤ y ∧ y < hi := fun y hy => by
        rcases mem_ins.1 hy with rfl | h
        · omega
        · exact hk y h
      have hkey32 : key ≤ 4294967295 → ∀ y ∈ ins n.keys k key, y ≤ 4294967295 := fun h32 y hy => by
        rcases mem_ins.1 hy with rfl | h
        · exact h32
        · exact hr.keys.2.1 y h
      have h32 : key ≤ 4294967295 := by
        have hq : ∃ y, key ≤ y ∧ y ≤ 4294967295 := by
          cases h with
          | zero => exact hP2.elim
          | succ h =>
            obtain ⟨n2, _, r1, _, _, r4, r5, _⟩ := hP2
            obtain ⟨y, hy⟩ : ∃ y, y ∈ n2.keys := ⟨n2.keys[0]'(by omega), List.getElem_mem _⟩
            exact ⟨y, (r5 y hy).1, r1.keys.2.1 y hy⟩
        obtain ⟨y, q1, q2⟩ := hq
        omega
      have hlen : (ins (n.kids.set k l) (k + 1) r).length = (ins n.keys k key).length + 1 := by
        rw [ins_length, ins_length, List.length_set, hkk]
      have hlk : (ins n.keys k key).length = n.keys.length + 1 := ins_length ..
      refine ⟨_, K3, tI, hC, hnd', ?_, hrange, ⟨by show mn ≤ (ins _ _ _).length; omega, by show 1 ≤ (ins _ _ _).length; omega⟩, hcn, by omega⟩
      rcases Nat.lt_or_ge n.keys.length 7 with h6 | h6
      · exact .inl ⟨⟨by show (ins _ _ _).length ≤ 7; omega, hkey32 h32, up'⟩, .inr ⟨v0, by show 1 ≤ (ins _ _ _).length; omega, hlen, hkd.2, hkd.1⟩⟩
      · exact .inr ⟨by show (ins _ _ _).length = 8; omega, hkey32 h32, up', .inr ⟨v0, by show (ins _ _ _).length = 9; omega, hkd.2, hkd.1⟩⟩
end
/-- tree.parted. -/
theorem parted_any {w : World} {B B' P d : Nat} {V1 : Nat → B8} {m : Nat} {s : SupT} {Fr1 Go1 : List Nat} (hp : PAt w B P d V1 m s Fr1 Go1) (vK vV vC : Value) (n : PN) (hn : NOwn w B' vK vV vC n) {Fr Go : List Nat} {V : Nat → B8} {h mn lo hi : Nat} {ps : List Nat} {K : Nat} (hmid : Mid s.2.2 Fr Go V h mn lo hi ps K Fr1 Go1 V1 n) (hm : m + 1 < 100000) (hroom : cnt (bothP s.2.2 Fr) 240 + 2 * (h + 1) ≤ 238) :
    Calls Tryz.prog 58 #[.pointer (some ⟨P, 0, none⟩), .agg #[vK, vV, vC]] w fun e w' => ∃ V' m' Fr' l r key two, e = .returned (.tuple #[.agg (gv l r key two), .nilIface]) ∧ PAt w' B P d V' m' s Fr' Go1 ∧ KT B isPg w w' ∧ m' ≤ m + 2 ∧ Grew s.2.2 Fr Go V (h + 1) mn lo hi ps K V' Fr' Go1 l r key two := by
  obtain ⟨ps1, K1, t, hc, hnd, hr, hk, hmn, hcn, hK⟩ := hmid
  have z0 : ∀ {F : List Nat}, Sets0 s.2.2 F Go1 → mem (bothP s.2.2 F) 0 = false := fun q => by rw [mem_both q.su q.sf 0 (by omega), q.u0.1, q.f0.1]; rfl
  obtain ⟨i, hi⟩ := free_of_cnt (z0 t.s) (by omega)
  rcases hr with hr | hr
  · refine (parted_one hp _ n hn.at hr (by omega) i hi).mono ?_
    rintro e w' ⟨rfl, h1, h2⟩
    exact ⟨_, _, _, i, 0, 0, false, rfl, h1, h2, by omega, Grew.one t hc hnd hr hk hmn hi hcn hK⟩
  · have t1 := t.alloc hi [] (ps2 := i :: ps1) (fun p => List.mem_cons)
    obtain ⟨j, hj⟩ := free_of_cnt (z0 t1.s) (by rw [cnt_alloc t.s.su t.s.sf hi]; omega)
    refine (parted_two hp vK vV vC n hn hr (by omega) i j hi hj).mono ?_
    rintro e w' ⟨rfl, h1, h2⟩
    exact ⟨_, _, _, i, j, _, true, rfl, h1, h2, by omega, Grew.two t hc hnd hr hk hi hj hcn hK⟩
end Go.Proofs.YtnlolhlbpdmljaaGreatDoor
