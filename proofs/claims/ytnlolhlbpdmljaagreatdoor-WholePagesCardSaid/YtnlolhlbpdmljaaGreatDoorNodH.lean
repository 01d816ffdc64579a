/-
  node.Read of a node that was laid.
  Conditions: the node is right.
-/
import Derived.Test.YtnlolhlbpdmljaaGreatDoorNodG
namespace Go.Proofs.YtnlolhlbpdmljaaGreatDoor
open Go.ChangeShapes Go.WideShapes Go.RowKit
/-- The node n in rows of the call's own. -/
structure NOwn (w : World) (B : Nat) (vK vV vC : Value) (n : PN) : Prop where
  keys : w.ownsRow B 3 1 vK n.keys.length (ints n.keys)
  vals : w.ownsRow B 9 1 vV n.vals.length (strs n.vals)
  kids : w.ownsRow B 3 1 vC n.kids.length (ints n.kids)
  dj : ∀ q, vK.ownBlock = some q → vC.ownBlock ≠ some q
theorem NOwn.at {w : World} {B : Nat} {vK vV vC : Value} {n : PN} (h : NOwn w B vK vV vC n) : NAt w (.agg #[vK, vV, vC]) n := ⟨vK, vV, vC, rfl, RowAt.own h.keys, RowAt.own h.vals, RowAt.own h.kids⟩
theorem NOwn.moved {w w' : World} {B : Nat} {vK vV vC : Value} {n : PN} (h : NOwn w B vK vV vC n) (hb : ∀ (k : Nat) (cs : Array Value) (t : TypeId), w.heap[k]? = some (Obj.cells cs t (0, 0)) → (t = 3 ∨ t = 9) → w'.heap[k]? = w.heap[k]?) : NOwn w' B vK vV vC n := by
  have key : ∀ {e m : Nat} {v : Value} {xs : List Value}, (e = 3 ∨ e = 9) → w.ownsRow B e 1 v m xs → w'.ownsRow B e 1 v m xs := fun he ho => own_row ho (fun k hk => by
    rcases ho.2 with ⟨rfl, _⟩ | ⟨g, cap, cur, rfl, _, hh, _⟩
    · cases hk
    · have : g = k := by injection hk
      subst this
      exact hb _ _ _ hh he)
  exact ⟨key (.inl rfl) h.keys, key (.inr rfl) h.vals, key (.inl rfl) h.kids, h.dj⟩
theorem NOwn.below {w w' : World} {B : Nat} {vK vV vC : Value} {n : PN} (h : NOwn w B vK vV vC n) (b : Below w.heap.size w w') : NOwn w' B vK vV vC n := h.moved (fun k _ _ hk _ => b.block k (row_lt hk))
theorem NOwn.kt {w w' : World} {B B' : Nat} {vK vV vC : Value} {n : PN} (h : NOwn w B vK vV vC n) (k : KT B' isPg w w') : NOwn w' B vK vV vC n := h.moved (fun q cs t hk ht => (k.cells hk (by rcases ht with rfl | rfl <;> rfl)).trans hk.symm)
theorem NOwn.base {w : World} {B B' : Nat} {vK vV vC : Value} {n : PN} (h : NOwn w B vK vV vC n) (hB : B' ≤ B) : NOwn w B' vK vV vC n := ⟨own_base h.keys hB, own_base h.vals hB, own_base h.kids hB, h.dj⟩
theorem node_one {w : World} {B : Nat} {vK vV vC : Value} {n : PN} (h : NOwn w B vK vV vC n) : (#[vK, vV, vC] : Array Value).all (·.oneCell') = true := by
  rcases own_slice h.keys with ⟨_, _, rfl⟩
  rcases own_slice h.vals with ⟨_, _, rfl⟩
  rcases own_slice h.kids with ⟨_, _, rfl⟩
  simp [Value.oneCell']
set_option maxRecDepth 100000 in
set_option maxHeartbeats 2000000 in
theorem nread_any (w : World) (n : PN) (hr : NRight n) : Calls Tryz.prog 75 #[.string (strB (nlay n))] w fun e w' => ∃ vK vV vC, e = .returned (.tuple #[.agg #[vK, vV, vC], .nilIface]) ∧ NOwn w' w.heap.size vK vV vC n ∧ Below w.heap.size w w' := by
  obtain ⟨R, hR⟩ : ∃ R, R = w.heap.size := ⟨_, rfl⟩
  obtain ⟨W1, hW1⟩ : ∃ W, W = w.alloc (.cells #[nilS, nilS, nilS] 87) := ⟨_, rfl⟩
  have R1 := Lib.hid (show W1.heap[R]? = some (.cells #[nilS, nilS, nilS] 87 (0, 0)) by rw [hW1, hR]; exact heap_alloc_new _ _)
  have B1 := Lib.hid (show Below w.heap.size w W1 by rw [hW1]; exact (Below.refl _ _).alloc (Nat.le_refl _) _)
  have HR := Lib.hid hR
  have HW1 := Lib.hid hW1
  have PARTS := Lib.hid (parts_any W1 n hr)
  have HRR := Lib.hid hr
  clear hR hW1 hr
  go_enter Tryz.func75, Tryz.ntmps75
  go_upto_region 1 with fail
  rw [← HW1.out, ← HR.out]
  go_wp2_with fail
  refine PARTS.out.mono ?_
  rintro e w2 ⟨vK, vV, vC, rfl, o1, o2, o3, dj, hb2⟩
  have o2' : NOwn w2 W1.heap.size vK vV vC n := ⟨o1, o2, o3, dj⟩
  have R2 := Lib.hid ((hb2.block R (row_lt R1.out)).trans R1.out)
  have B2 := Lib.hid (B1.out.trans (hb2.mono B1.out.size))
  obtain ⟨X, hX⟩ : ∃ X, X = w2.heap.size := ⟨_, rfl⟩
  obtain ⟨W3, hW3⟩ : ∃ W, W = w2.alloc (.cells #[nilS, nilS, nilS] 87) := ⟨_, rfl⟩
  obtain ⟨W4, hW4⟩ : ∃ W, W = W3.setRow X #[vK, vV, vC] := ⟨_, rfl⟩
  have x3 : W3.heap[X]? = some (.cells #[nilS, nilS, nilS] 87 (0, 0)) := by rw [hW3, hX]; exact heap_alloc_new _ _
  have X3 := Lib.hid x3
  have X4 := Lib.hid (show W4.heap[X]? = some (.cells #[vK, vV, vC] 87 (0, 0)) by rw [hW4]; exact setRow_has x3)
  have b4 : Below w2.heap.size w2 W4 := by rw [hW4]; exact below_setRow (by rw [hW3]; exact (Below.refl _ _).alloc (Nat.le_refl _) _) (by rw [hX]; exact Nat.le_refl _) _
  have R4 := Lib.hid ((b4.block R (row_lt R2.out)).trans R2.out)
  have B4 := Lib.hid (B2.out.trans (b4.mono B2.out.size))
  have O4 := Lib.hid ((o2'.below b4).base B1.out.size)
  have ONE := Lib.hid (node_one o2')
  have RIGHT := Lib.hid (nright_any W4 _ n O4.out.at HRR.out)
  have HX := Lib.hid hX
  have HW3 := Lib.hid hW3
  have HW4 := Lib.hid hW4.symm
  clear hX hW3 hW4 x3 b4 o1 o2 o3 dj hb2 o2'
  go_wp2_with (first | (go_at_call 82; refine RIGHT.out.mono ?_; rintro e w5 ⟨rfl, hb5⟩; have B5 := Lib.hid (B4.out.trans (hb5.mono B4.out.size)); have R5 := Lib.hid ((hb5.block R (row_lt R4.out)).trans R4.out); have X5 := Lib.hid ((hb5.block X (row_lt X4.out)).trans X4.out); have O5 := Lib.hid (O4.out.below hb5); clear hb5) | (rw [← HW3.out, ← HX.out]; refine wpList_store_row rfl 87 (.tmp 4) (.tmp 9) rfl X #[vK, vV, vC] rfl rfl 87 #[nilS, nilS, nilS] X3.out size87 rfl ONE.out ?_; rw [HW4.out]) | (refine l_is (.load 87 (.tmp 4)) rfl (want_is 2 13 false false true rfl rfl rfl rfl) (run_ld_node (x := .tmp 4) rfl rfl X4.out) ?_) | (refine l_is (.load 87 (.tmp 4)) rfl rfl (run_ld_node (x := .tmp 4) rfl rfl X5.out) ?_) | (refine wpList_store_row rfl 87 (.tmp 2) (.tmp 21) rfl R #[vK, vV, vC] rfl rfl 87 #[nilS, nilS, nilS] R5.out size87 rfl ONE.out ?_))
  exact bodyPost_ret (results_node rfl _ _ R .nilIface rfl (setRow_has R5.out) rfl) rfl ⟨vK, vV, vC, rfl, O5.out.moved (fun k cs t hk ht => setRow_other _ _ _ _ (fun e => cells_ne hk R5.out (by rcases ht with rfl | rfl <;> decide) e)), below_setRow B5.out (by rw [HR.out]; exact Nat.le_refl _) _⟩
end Go.Proofs.YtnlolhlbpdmljaaGreatDoor
