/-
  A region that draws its order and stores at its end: what its early operations read holds till then.
  Conditions: each late operation waits for the early one by itself.
-/
import Derived.Test.YtnlolhlbpdmljaaGreatDoorTreT
namespace Go.Proofs.YtnlolhlbpdmljaaGreatDoor
open Go.ChangeShapes Go.WideShapes Go.RowKit
/-- Has a late operation come up? -/
def anyLate (late : List Nat) (L : Array Bool) : Bool := late.any fun j => L.getD j false
def Turns (ops : Array Oper) (late : List Nat) (S : Bool → World → Prop) (Q : Exit → Act → World → Prop) : Nat → Array Bool → Act → World → Prop
  | 0, L, a, w => Region.ready .any ops L = [] ∧ Q .normal a w
  | f + 1, L, a, w => (Region.ready .any ops L = [] → Q .normal a w) ∧ ∀ i ∈ Region.ready .any ops L, wpOp Tryz.prog ops Q i (fun a' w' => S (anyLate late (L.setIfInBounds i true)) w' ∧ Turns ops late S Q f (L.setIfInBounds i true) a' w') a w
section
variable {ops : Array Oper} {late : List Nat} {S : Bool → World → Prop} {Q : Exit → Act → World → Prop}
theorem Turns.any : ∀ (f : Nat) (L : Array Bool) (a : Act) (w : World), Turns ops late S Q f L a w → wpAny Tryz.prog .any ops Q f L a w
  | 0, _, _, _, h => h
  | f + 1, _, _, _, h => ⟨h.1, fun i hi => wpOp_mono (fun a' w' h' => Turns.any f _ a' w' h'.2) (h.2 i hi)⟩
theorem anyLate_set {L : Array Bool} {i : Nat} (hi : late.contains i = false) : anyLate late (L.setIfInBounds i true) = anyLate late L := by
  unfold anyLate
  rw [Bool.eq_iff_iff, List.any_eq_true, List.any_eq_true]
  have key : ∀ j ∈ late, (L.setIfInBounds i true).getD j false = L.getD j false := fun j hj => getD_set_ne false (fun e => by
    subst e
    have : late.contains i = true := List.contains_iff_mem.2 hj
    rw [hi] at this; cases this)
  constructor
  · rintro ⟨j, h1, h2⟩; exact ⟨j, h1, by rw [← key j h1]; exact h2⟩
  · rintro ⟨j, h1, h2⟩; exact ⟨j, h1, by rw [key j h1]; exact h2⟩
/-- Each late operation waits for this one. -/
def waits (ops : Array Oper) (late : List Nat) (i : Nat) : Bool := late.all fun j => match ops[j]? with
  | some o => o.after.any fun e => Region.binds .any e && e.on == i
  | none => false
theorem anyLate_other {L : Array Bool} {j : Nat} (hj : late.contains j = false) (h : anyLate late L = false) : anyLate late (L.setIfInBounds j true) = false := by rw [anyLate_set hj]; exact h
theorem Turns.first {i : Nat} {oi : Oper} {v : Value} {T : World → Prop} {e : Bool} (hi : ops[i]? = some oi) (hsel : ∀ (j : Nat) (o : Oper) cs b, ops[j]? = some o → o.op ≠ .select cs b)
    (hQ : ∀ c a w, Q (.panic c) (a.put oi.dst v) w → Q (.panic c) a w) (hl : late.contains i = false) (hT0 : ∀ w, S false w → T w) (hT1 : e = false → ∀ w, S true w → T w) (hW : e = true → waits ops late i = true) :
    ∀ (f : Nat) (L : Array Bool) (a : Act) (w : World),
      (∀ j oj, ops[j]? = some oj → j ≠ i → L.getD j true = false → (∀ x ∈ oj.after, Region.binds .any x = true → x.on ≠ i) → oi.apart ops oj = true) →
      i ∈ Region.ready .any ops L → YieldsIf Tryz.prog ops T oi v a → (e = true → anyLate late L = false) → S (anyLate late L) w →
      Turns ops late S Q f (L.setIfInBounds i true) (a.put oi.dst v) w → Turns ops late S Q (f + 1) L a w := by
  have toT : ∀ (L : Array Bool) (w : World), (e = true → anyLate late L = false) → S (anyLate late L) w → T w := by
    intro L w hL h
    cases hA : anyLate late L with
    | false => rw [hA] at h; exact hT0 w h
    | true =>
      rw [hA] at h
      cases e with
      | false => exact hT1 rfl w h
      | true => rw [hL rfl] at hA; cases hA
  have mine : ∀ (f : Nat) (L : Array Bool) (a : Act) (w : World), YieldsIf Tryz.prog ops T oi v a → (e = true → anyLate late L = false) → S (anyLate late L) w → Turns ops late S Q f (L.setIfInBounds i true) (a.put oi.dst v) w →
      wpOp Tryz.prog ops Q i (fun a' w' => S (anyLate late (L.setIfInBounds i true)) w' ∧ Turns ops late S Q f (L.setIfInBounds i true) a' w') a w :=
    fun f L a w hy hL hS H => hy.wpOp hi (toT L w hL hS) ⟨by rw [anyLate_set hl]; exact hS, H⟩
  intro f
  induction f with
  | zero =>
    intro L a w _ hr hy hL hS H
    refine ⟨fun h => (by rw [h] at hr; cases hr), fun j hj => ?_⟩
    by_cases hji : j = i
    · rw [hji]; exact mine 0 L a w hy hL hS H
    · have h0 := ready_mono hj hji
      rw [H.1] at h0; cases h0
  | succ f ih =>
    intro L a w hfree hr hy hL hS H
    refine ⟨fun h => (by rw [h] at hr; cases hr), fun j hj => ?_⟩
    by_cases hji : j = i
    · rw [hji]; exact mine (f + 1) L a w hy hL hS H
    · obtain ⟨hun, oj, hoj, hall⟩ := mem_ready.1 hj
      have hnot : ∀ x ∈ oj.after, Region.binds .any x = true → x.on ≠ i := fun x hx hb heq => by
        have h1 := hall x hx hb
        have h0 := (mem_ready.1 hr).1
        rw [heq] at h1
        rcases Nat.lt_or_ge i L.size with h' | h'
        · simp [h'] at h0 h1; rw [h0] at h1; cases h1
        · simp [Array.getElem?_eq_none h'] at h1
      have hLj : e = true → anyLate late (L.setIfInBounds j true) = false := fun he => by
        refine anyLate_other ?_ (hL he)
        cases hc : late.contains j with
        | false => rfl
        | true =>
          have hw := List.all_eq_true.1 (hW he) j (List.contains_iff_mem.1 hc)
          simp only [hoj] at hw
          obtain ⟨x, hx, hb⟩ := Array.any_eq_true'.1 hw
          simp only [Bool.and_eq_true, beq_iff_eq] at hb
          exact absurd hb.2 (hnot x hx hb.1)
      have h2 := wpOp_putIf hoj (hfree j oj hoj hji hun hnot) (fun cs b => hsel i oi cs b hi) (fun cs b => hsel j oj cs b hoj) hQ hy (H.2 j (ready_mono hj hji))
      refine wpOp_mono (fun a' w' h3 => ?_) h2
      obtain ⟨h3, h4, h5⟩ := h3
      rw [Array.setIfInBounds_comm _ _ (Ne.symm hji), anyLate_set hl] at h4
      rw [Array.setIfInBounds_comm _ _ (Ne.symm hji)] at h5
      refine ⟨h4, ih _ a' w' (fun k ok hk hki hun' hno => hfree k ok hk hki ?_ hno) (ready_mono hr (Ne.symm hji)) h3 hLj h4 h5⟩
      by_cases hjk : j = k
      · rw [← hjk]; exact hun
      · rw [getD_set_ne true hjk] at hun'; exact hun'
end
section
variable {ops : Array Oper} {late : List Nat} {S : Bool → World → Prop} {Q : Exit → Act → World → Prop} {a : Act} {o : Oper} {w : World} {fuel : Nat} {listed : Array Bool}
abbrev Gk (ops : Array Oper) (late : List Nat) (S : Bool → World → Prop) (Q : Exit → Act → World → Prop) (fuel : Nat) (listed : Array Bool) (a : Act) (w : World) : Prop := Shut (Turns ops late S Q fuel listed a w)
structure KOp (ops : Array Oper) (late : List Nat) (S : Bool → World → Prop) (Q : Exit → Act → World → Prop) (fuel : Nat) (listed : Array Bool) (i : Nat) (a : Act) (w : World) : Prop where
  out : wpOp Tryz.prog ops Q i (fun a' w' => S (anyLate late (listed.setIfInBounds i true)) w' ∧ Turns ops late S Q fuel (listed.setIfInBounds i true) a' w') a w
theorem k_region {id : Nat} {l : List Oper} (late : List Nat) (S : Bool → World → Prop) (n : Nat) (hn : l.length = n) (hm : Tryz.prog.follows .mixedOrders = true) (h : Gk l.toArray late S Q n (Array.replicate n false) a w.drew) : (Code.region id l.toArray true).wp Tryz.prog Q a w := by
  subst hn
  exact wp_region_any hm (Turns.any _ _ _ _ h.out)
/-- An early operation, taken first: what it yields, it yields till the late ones. -/
theorem k_early (i : Nat) (hi : ops[i]? = some o) (d : Option Nat) (hd : o.dst = d) (hs : Region.noSelect ops = true) (hf : Region.free .any ops listed i = true) (hr : (Region.ready .any ops listed).contains i = true) {u : Value} (hQ : ∀ c a w, Q (.panic c) (a.put d u) w → Q (.panic c) a w)
    (hl : late.contains i = false) (hw8 : waits ops late i = true) (hA : anyLate late listed = false)
    (hw : Region.wanted o (yielded ops a.tmps) = true) (hrun : ∀ w, S false w → (execOp a.eval o).run Tryz.prog w = .ok (.value u) w) (hS : S false w) (h : Gk ops late S Q fuel (listed.setIfInBounds i true) (a.put d u) w) : Gk ops late S Q (fuel + 1) listed a w := by
  subst hd
  exact ⟨Turns.first (T := S false) (e := true) hi (Region.noSelect_spec hs) hQ hl (fun _ h => h) (fun h => by cases h) (fun _ => hw8) fuel listed a w (Region.free_spec hi hf) (by simpa using hr) (.inl ⟨hw, hrun⟩) (fun _ => hA) (by rw [hA]; exact hS) h.out⟩
/-- An operation, taken first, whose value hangs on nothing that is late. -/
theorem k_take (i : Nat) (hi : ops[i]? = some o) (d : Option Nat) (hd : o.dst = d) (hs : Region.noSelect ops = true) (hf : Region.free .any ops listed i = true) (hr : (Region.ready .any ops listed).contains i = true) {u : Value} (hQ : ∀ c a w, Q (.panic c) (a.put d u) w → Q (.panic c) a w)
    (hl : late.contains i = false) (hA : anyLate late listed = false) (hCD : ∀ w, S false w → S true w)
    (hw : Region.wanted o (yielded ops a.tmps) = true) (hrun : ∀ w, S true w → (execOp a.eval o).run Tryz.prog w = .ok (.value u) w) (hS : S false w) (h : Gk ops late S Q fuel (listed.setIfInBounds i true) (a.put d u) w) : Gk ops late S Q (fuel + 1) listed a w := by
  subst hd
  exact ⟨Turns.first (T := S true) (e := false) hi (Region.noSelect_spec hs) hQ hl hCD (fun _ _ h => h) (fun h => by cases h) fuel listed a w (Region.free_spec hi hf) (by simpa using hr) (.inl ⟨hw, hrun⟩) (fun h => by cases h) (by rw [hA]; exact hS) h.out⟩
theorem k_one (i : Nat) (hr : Region.ready .any ops listed = [i]) (h : KOp ops late S Q fuel listed i a w) : Gk ops late S Q (fuel + 1) listed a w :=
  ⟨fun h0 => absurd (hr ▸ h0) (by simp), fun j hj => by rw [hr, List.mem_singleton] at hj; subst hj; exact h.out⟩
theorem k_two (i j : Nat) (hr : Region.ready .any ops listed = [i, j]) (h : KOp ops late S Q fuel listed i a w) (k : KOp ops late S Q fuel listed j a w) : Gk ops late S Q (fuel + 1) listed a w :=
  ⟨fun h0 => absurd (hr ▸ h0) (by simp), fun x hx => by
    rw [hr] at hx
    rcases List.mem_cons.1 hx with e | hx
    · subst e; exact h.out
    · rw [List.mem_singleton] at hx; subst hx; exact k.out⟩
theorem k_done (hr : Region.ready .any ops listed = []) (h : Q .normal a w) : Gk ops late S Q fuel listed a w := by
  cases fuel with
  | zero => exact ⟨hr, h⟩
  | succ f => exact ⟨fun _ => h, fun i hi => by rw [hr] at hi; cases hi⟩
theorem k_wp {i : Nat} (hi : ops[i]? = some o) (hw : Region.wanted o (yielded ops a.tmps) = true) (b : Bool) (hb : anyLate late (listed.setIfInBounds i true) = b)
    (h : ∀ K : Act → World → Prop, (∀ a' w', S b w' → Gk ops late S Q fuel (listed.setIfInBounds i true) a' w' → K a' w') → o.wp Tryz.prog a w K Q) : KOp ops late S Q fuel listed i a w := by
  subst hb
  exact ⟨by unfold wpOp; simp only [hi, hw, if_true]; exact .inl (h _ (fun a' w' hc hg => ⟨hc, hg.out⟩))⟩
theorem k_val {i : Nat} (hi : ops[i]? = some o) (d : Option Nat) (hd : o.dst = d) (hw : Region.wanted o (yielded ops a.tmps) = true) (b : Bool) (hb : anyLate late (listed.setIfInBounds i true) = b) {u : Value} {w' : World} (hrun : (execOp a.eval o).run Tryz.prog w = .ok (.value u) w') (hS : S b w')
    (h : Gk ops late S Q fuel (listed.setIfInBounds i true) (a.put d u) w') : KOp ops late S Q fuel listed i a w := by
  subst hd
  exact k_wp hi hw b hb fun K hK => by unfold Oper.wp; rw [hrun]; exact hK _ _ hS h
theorem k_skp {i : Nat} (hi : ops[i]? = some o) (hd : o.dst = none) (hw : Region.wanted o (yielded ops a.tmps) = true) (b : Bool) (hb : anyLate late (listed.setIfInBounds i true) = b) {w' : World} (hrun : (execOp a.eval o).run Tryz.prog w = .ok .skip w') (hS : S b w')
    (h : Gk ops late S Q fuel (listed.setIfInBounds i true) a w') : KOp ops late S Q fuel listed i a w :=
  k_wp hi hw b hb fun K hK => by
    unfold Oper.wp
    rw [hrun]
    have e : a.put o.dst undef = a := by rw [hd]; rfl
    show K (a.put o.dst undef) w'
    rw [e]
    exact hK _ _ hS h
theorem k_call {i : Nat} (hi : ops[i]? = some o) (d : Option Nat) (hd : o.dst = d) (hw : Region.wanted o (yielded ops a.tmps) = true) (b : Bool) (hb : anyLate late (listed.setIfInBounds i true) = b) {f : FuncId} {args : Array Value} {Φ : Ending → World → Prop} (hrun : (execOp a.eval o).run Tryz.prog w = .ok (.enter f args) w)
    (hc : Calls Tryz.prog f args w Φ) (h : ∀ e w', Φ e w' → ∃ v, e = .returned v ∧ S b w' ∧ Gk ops late S Q fuel (listed.setIfInBounds i true) (a.put d v) w') : KOp ops late S Q fuel listed i a w := by
  subst hd
  exact k_wp hi hw b hb fun K hK => by
    unfold Oper.wp
    rw [hrun]
    exact hc.mono fun e w' he => by
      obtain ⟨v, rfl, hS, hg⟩ := h e w' he
      exact hK _ _ hS hg
end
end Go.Proofs.YtnlolhlbpdmljaaGreatDoor
