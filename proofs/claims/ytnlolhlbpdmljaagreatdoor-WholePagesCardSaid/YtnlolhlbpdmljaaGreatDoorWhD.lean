/-
  WholePages answers true at every list of acts, and what it was handed reads as it did: behind each commit the superblock that counts has the root and just the pages of a sound tree, and no page of it is written over till the next one. The row, and its tied card.
  Conditions: none beyond the card's own (errors.errorType reads as the program's text lays it: the given tie).
-/
import Derived.Test.YtnlolhlbpdmljaaGreatDoorWhC
import Derived.Test.YtnlolhlbpdmljaaGreatDoorRows
import Derived.Test.YtnlolhlbpdmljaaGreatDoorTie
import Derived.Test.YtnlolhlbpdmljaaGreatDoorCards
import Derived.ProofKit
import Derived.OpenShut
import Derived.ChangeOld
import Derived.ChangeVars
import Derived.Deep.Slices
import Derived.Deep.Fields
import Derived.ChangeSame
import Derived.Lib.SmallJoins
import Derived.LaidLaws
import Derived.LaidHandle
import Derived.LaidMore
import Derived.SevenTiedAt
namespace Go.Proofs.YtnlolhlbpdmljaaGreatDoor
open Go.ChangeShapes Go.WideShapes Go.ChangeAt Go.RowKit Go.Deep Go.Joins

theorem own : ownKnob Tryz.prog.godebug = none := by kernel_rfl
theorem laidOut : laidOutB Tryz.prog = true := by kernel_rfl

section
variable {H : Type} {enc : TypeId × Value → H} {P : Program} {w : World} {base : Nat} {spare : Nat → Bool} {held : Bool}
/-- A slice of structs, each of whose fields is one cell. -/
theorem open_acts_fields {t e : TypeId} {fs : Array Field} {fuel : Nat} {cs : List Value} {x : DataW H × List MemPlace} (ht : P.underlying t = some (.slice e)) (he : P.underlying e = some (.struct fs))
    (hone : oneCellFields P fs = true) (hC : P.cellsOf e = fs.size) (h : DataW.trod enc P w base spare held fuel t cs = some x) :
    cs = [.slice none 0 0] ∨
    ∃ (a : Addr) (len cap m : Nat), cs = [.slice (some a) len cap] ∧ len ≤ cap ∧ cap ≤ maxLen ∧ m = (if spare a.block then cap else len) ∧
      ∀ i, i < m → ∃ n : Nat, ∀ (j : Nat) (f : Field), fs[j]? = some f → ∃ (v : Value) (y : DataW H × List MemPlace), w.cell? (a.add (i * fs.size + j)) = some v ∧ DataW.trod enc P w base spare held n f.type [v] = some y := by
  rcases open_slice ht h with h0 | ⟨a, len, cap, m, n, D, Pl, hcs, _, hl, hm, hmm, _, hi⟩
  · exact .inl h0.1
  · refine .inr ⟨a, len, cap, m, hcs, hl, hm, hmm, fun i him => ?_⟩
    obtain ⟨cs', hc, ht'⟩ := hi i him
    rw [hC] at hc
    obtain ⟨ys, n', _, _, hlen, hyl, hf⟩ := DataW.trod_struct he ht'
    obtain ⟨_, hcl, hat⟩ := World.cells?_some hc
    refine ⟨n', fun j f hj => ?_⟩
    obtain ⟨ho, hk⟩ := hone_of hone j f hj
    have hjl : j < fs.size := (Array.getElem?_eq_some_iff.1 hj).1
    have hcell := hat j hjl
    have hv : cs'[j]? = some (cs'[j]'(by omega)) := List.getElem?_eq_getElem (by omega)
    have h1 := hf j f hj
    rw [ho, hk] at h1
    have hone' : (cs'.drop j).take 1 = [cs'[j]'(by omega)] := by
      rw [List.drop_eq_getElem_cons (by omega)]
      rfl
    rw [hone'] at h1
    have hys : ys[j]? = some (ys[j]'(by omega)) := List.getElem?_eq_getElem (by omega)
    refine ⟨_, _, ?_, h1.trans hys⟩
    rw [← Go.Deep.add_add, hcell, hv]
end

theorem list_acts {Q : Nat → Nat × Nat → Prop} (n : Nat) : (∀ i, i < n → ∃ d, Q i d) → ∃ l : List (Nat × Nat), l.length = n ∧ ∀ i, i < n → Q i (l.getD i (0, 0)) := by
  induction n with
  | zero => exact fun _ => ⟨[], rfl, fun i hi => by omega⟩
  | succ n ih =>
    intro h
    obtain ⟨l, hl, hq⟩ := ih (fun i hi => h i (by omega))
    obtain ⟨d, hd⟩ := h n (by omega)
    refine ⟨l ++ [d], by simp [hl], fun i hi => ?_⟩
    by_cases e : i < n
    · have e1 : (l ++ [d]).getD i (0, 0) = l.getD i (0, 0) := by
        rw [List.getD_eq_getElem?_getD, List.getD_eq_getElem?_getD, List.getElem?_append_left (by omega)]
      rw [e1]; exact hq i e
    · have e2 : i = n := by omega
      subst e2
      have e1 : (l ++ [d]).getD i (0, 0) = d := by
        rw [List.getD_eq_getElem?_getD, List.getElem?_append_right (by omega)]; simp [hl]
      rw [e1]; exact hd

theorem u8_lit {n : Int} (h : (Lit.int .u8 n).wf = true) : ∃ m : Nat, n = (m : Int) ∧ m < 256 := by
  simp [Lit.wf, IntKind.min, IntKind.max, IntKind.signed, IntKind.bits] at h
  exact ⟨n.toNat, by omega, by omega⟩
theorem u32_lit {n : Int} (h : (Lit.int .u32 n).wf = true) : ∃ m : Nat, n = (m : Int) := by
  simp [Lit.wf, IntKind.min, IntKind.max, IntKind.signed, IntKind.bits] at h
  exact ⟨n.toNat, by omega⟩

section
variable {H : Type} {enc : TypeId × Value → H} {W : World}
set_option maxRecDepth 100000 in
/-- The acts that came in: their keys and values. -/
theorem open_acts {v : Value} {d : DataW H} {p : List MemPlace} (hv : Value.okWide Tryz.prog W .any 0 22 v) (h : DataW.Trod enc Tryz.prog W 0 (fun _ => true) true 22 v d p) :
    ∃ (A : Option Addr) (c : Nat) (l : List (Nat × Nat)), v = .slice A l.length c ∧ l.length ≤ maxLen ∧ AReads W W.heap.size A l ∧ ∀ j, (l.getD j (0, 0)).1 < 256 := by
  obtain ⟨a0, len, cap, rfl⟩ := okWide_slice Tryz.underlying22 hv
  obtain ⟨fuel, hf⟩ := h
  rcases open_acts_fields Tryz.underlying22 Tryz.underlying46 (by kernel_rfl) (by kernel_rfl : Tryz.prog.cellsOf 46 = 3) hf with hcs | ⟨a, len', cap', m, hcs, hl, hm, hmm, hi⟩
  · cases hcs
    exact ⟨none, 0, [], rfl, by simp [maxLen], fun h => by simp at h, fun j => by simp⟩
  · cases hcs
    have hmc : len ≤ m := by rw [hmm]; simpa using hl
    obtain ⟨l, hll, hq⟩ := list_acts (Q := fun i d => (W.cell? ((a.add (i * 3)).add 1) = some (.int .u8 (d.1 : Int)) ∧ W.cell? ((a.add (i * 3)).add 2) = some (.int .u32 (d.2 : Int))) ∧ d.1 < 256) len (fun i hi' => by
      obtain ⟨n, hj⟩ := hi i (by omega)
      obtain ⟨u1, y1, c1, t1⟩ := hj 1 _ rfl
      obtain ⟨u2, y2, c2, t2⟩ := hj 2 _ rfl
      obtain ⟨b1, e1, _, w1⟩ := DataW.trod_int Tryz.underlying5 t1
      obtain ⟨b2, e2, _, w2⟩ := DataW.trod_int Tryz.underlying44 t2
      cases e1
      cases e2
      obtain ⟨m1, rfl, hm1⟩ := u8_lit w1
      obtain ⟨m2, rfl⟩ := u32_lit w2
      refine ⟨(m1, m2), ⟨?_, ?_⟩, hm1⟩
      · rw [Go.Deep.add_add]; simpa using c1
      · rw [Go.Deep.add_add]; simpa using c2)
    refine ⟨some a, cap, l, by rw [hll], by omega, fun hl0 => ⟨a, rfl, ?_, fun j hj => (hq j (by omega)).1⟩, fun j => ?_⟩
    · have := World.block_lt_of_cell? W _ (hq 0 (by omega)).1.1
      rw [add_block, add_block] at this
      exact this
    · by_cases hj : j < len
      · exact (hq j hj).2
      · rw [List.getD_eq_getElem?_getD, List.getElem?_eq_none (by omega)]
        decide
end

theorem walk_wholePages (w : World) (A : Option Addr) (c : Nat) (l : List (Nat × Nat)) (hm : l.length ≤ maxLen) (hr : AReads w w.heap.size A l) (hk : ∀ i, (l.getD i (0, 0)).1 < 256) :
    Calls Tryz.prog 3 #[.slice A l.length c] w fun e w' => e = .returned (.bool true) ∧ Below w.heap.size w w' := by
  by_cases h : 60 < l.length
  · exact walk_long w A c _ hm h
  · exact walk_run w A c l (by omega) hr hk

/-- The door's own heap meets the condition. -/
theorem door_met (os : Os) (args : Array Value) : laidMetH Tryz.prog Rows.wholePagesRow.laid ((World.doorLaid Tryz.prog 16 os).forCall (fun _ _ => 0) ⟨#[], args, []⟩).memory :=
  laidMetH_of_parts (laidMet_nil _ _) (by kernel_rfl)

set_option maxRecDepth 100000 in
theorem wholePages_lifted (os : Os) (started : os.Started) (H : Type) (enc : TypeId × Value → H) :
    ReturnsInHanded {} Tryz.checked os 3 .any (fun w args => (Rows.wholePagesSpec.pre enc Tryz.prog Tryz.f3 [] false w args ∧ laidMetH Tryz.prog Rows.wholePagesRow.laid w) ∧ sizedMet enc Tryz.prog Tryz.f3 (OpenSpec.ofChange Rows.wholePagesSpec) false w args)
      (Rows.wholePagesSpec.post enc Tryz.prog Tryz.f3 false true false false) := by
  refine returnsInHanded_of_change_and (C := Tryz.checked) (X := fun w _ => laidMetH Tryz.prog Rows.wholePagesRow.laid w) (fun _ _ _ hh h => h.of_heap hh) own started (by kernel_rfl) Tryz.func3
    (ChangeSpec.witness_shaped (enc := enc) (C := Tryz.checked) (os := os) (X := fun w _ => laidMetH Tryz.prog Rows.wholePagesRow.laid w) false (World.doorLaid Tryz.prog 16 os) #[.slice none 0 0] 8 rfl (World.shaped_of_RefB (by kernel_rfl) (by kernel_rfl)) (by kernel_rfl) (by kernel_rfl) (by kernel_rfl) (door_met os _)) ?_
  intro W base args ds gs before hval0 hW _ _ _ _
  have hval : ∀ (j : Nat) t v, Tryz.f3.params[j]? = some t → args[j]? = some v → Value.okWide Tryz.prog W .any base t v := hval0
  have hW' := hW
  obtain ⟨p, q, hA0, hV, rfl, hfz, hnd⟩ := hW
  have hA : DataW.TrodAll enc Tryz.prog W 0 (fun _ => true) true Tryz.f3.params.toList args.toList ds p := hA0
  rw [Tryz.params3] at hA hval
  obtain ⟨v0, vs0, d0, ds0, p0, q0, hargs, rfl, rfl, h0, r0⟩ := trodAll_cons hA
  obtain ⟨rfl, rfl, rfl⟩ := trodAll_nil r0
  obtain rfl : args = #[v0] := by cases args; simp_all
  obtain ⟨rfl, rfl⟩ := trodVars_none hV
  have k0 := h0
  have lt0 : ∀ x ∈ p0, x.block < W.heap.size := by obtain ⟨m, hm⟩ := k0; exact DataW.trod_lt m _ _ _ hm
  obtain ⟨A0, c0, l0, rfl, hm0, hr0, hw0⟩ := open_acts (hval 0 22 v0 rfl rfl) h0
  clear hA0 hval0
  refine (walk_wholePages W A0 c0 l0 hm0 hr0 hw0).mono fun e W' ⟨he, bel⟩ => ?_
  subst he
  exact ⟨_, rfl, _, _, _, [], _, [], hW', trodAll_mk1 (shut_bool Tryz.underlying4 _), (trodAll_cons_mk (Below.trod laidOut (by kernel_rfl) (of_decide_eq_true (by kernel_rfl)) k0 bel lt0) trodAll_mk0), rfl, bel.frame _, fun h => by cases h⟩

theorem wholePages_holds : Rows.WholePagesSaid :=
  OpenClaim.holds_of_wide 3 Tryz.f3 rfl rfl rfl rfl rfl rfl rfl ⟨rfl, rfl, rfl, rfl, rfl⟩ rfl rfl rfl rfl rfl (by kernel_rfl) Tryz.func3 (by kernel_rfl)
    (of_decide_eq_true (by kernel_rfl)) (by unfold Func.isWrapper; first | (rw [if_pos (by decide +kernel)]; kernel_rfl) | (rw [if_neg (by decide +kernel)]; exact ⟨rfl, rfl⟩))
    (fun os started H enc _ => wholePages_lifted os started H enc)

/-- The tied card. -/
theorem wholePagesCard_holds : Rows.WholePagesCardSaid :=
  Claim7.holds_tied_plain_at .later [] [.handle] true (true, "84457dc9acaaf0370d62af15a4a71ce10ff826a477358a003ffcdacfc962d78e") true
    wholePages_holds (fun _ h => by cases h) (by kernel_rfl) (fun _ h => by cases h) wholePages_row_tie rfl ⟨rfl, rfl⟩ (by kernel_rfl) rfl
    (fun f fn hf hfn => by
      obtain rfl : f = 3 := Option.some.inj ((show Tryz.prog.funcNamed "dynamo/dynamotop.WholePages" = some 3 by kernel_rfl).symm.trans hf) |>.symm
      obtain rfl : fn = Tryz.f3 := (Option.some.inj (Tryz.func3.symm.trans hfn)).symm
      exact ⟨by kernel_rfl, fun j t ht => by
        rw [Tryz.params3] at ht
        have h3 : t = 22 := by
          rcases j with _ | j
          · simpa using ht.symm
          · simp at ht
        subst h3
        exact (show Tryz.prog.wantsStandIn 22 = false by kernel_rfl)⟩)
    (by kernel_rfl)
#print axioms wholePagesCard_holds
end Go.Proofs.YtnlolhlbpdmljaaGreatDoor
