/-
  slices.Grow and slices.Concat of integers.
  Conditions: there are not many.
-/
import Derived.Test.YtnlolhlbpdmljaaGreatDoorTreX
import Derived.Test.YtnlolhlbpdmljaaGreatDoorShelfB
namespace Go.Proofs.YtnlolhlbpdmljaaGreatDoor
open Go.ChangeShapes Go.WideShapes Go.RowKit
theorem grow_any (w : World) (n : Nat) (h0 : 0 < n) (h1 : n ≤ 1000) : Calls Tryz.prog 119 #[.slice none 0 0, .int .i64 (n : Int)] w fun e w' => ∃ v, e = .returned v ∧ w'.ownsRow w.heap.size 3 1 v 0 [] ∧ Below w.heap.size w w' := by
  obtain ⟨i3, hi3, hz3, hs3, hb3⟩ := info_parts info3
  refine (Any8.slices_Grow_grow Tryz.layGrow i3 _ hi3 hz3 (by rw [hs3]; omega) none 0 0 n [] w (Nat.le_refl _) (by omega) (by rw [hb3]; omega) (by omega) (by simp) (fun _ => rfl) (fun a h => by cases h)).mono ?_
  rintro e w' ⟨rfl, rfl⟩
  have hg := grownCap_max w (0 + n) 0 3
  refine ⟨_, rfl, World.ownsRow_made w.drew _ _ (Nat.le_refl _) (grownCap_le_maxLen w _ _ _ (by unfold maxLen; omega)) ?_, (Below.refl _ _).drew.alloc (Nat.le_refl _) _⟩
  have hge := grownCap_ge w (0 + n) 0 3
  show (#[] ++ Builtin.zeroCells _ _ ++ Builtin.zeroCells _ _ : Array Value).size = _
  rw [Array.size_append, Array.size_append, size_zeroCells, size_zeroCells]
  show 0 + (0 + n - 0) * 1 + (grownCap w (0 + n) 0 3 - (0 + n)) * 1 = grownCap w (0 + n) 0 3 * 1
  omega
set_option maxRecDepth 100000 in
set_option maxHeartbeats 2000000 in
theorem concat_any (W : World) (Q c : Nat) (vs : List Value) (ls : List (List Nat)) (hl : vs.length = ls.length) (hN : vs.length ≤ 10) (hQ : W.heap[Q]? = some (.cells vs.toArray 33 (0, 0))) (hv : ∀ i, i < vs.length → RowAt W 3 (vs.getD i undef) (ints (ls.getD i []))) (ht : ls.flatten.length ≤ 1000) (ht0 : 0 < ls.flatten.length) :
    Calls Tryz.prog 97 #[.slice (some ⟨Q, 0, none⟩) vs.length c] W fun e w' => ∃ v', e = .returned v' ∧ w'.ownsRow W.heap.size 3 1 v' ls.flatten.length (ints ls.flatten) ∧ Below W.heap.size W w' := by
  obtain ⟨i3, hi3, hz3, hs3, hb3⟩ := info_parts info3
  have HQ := Lib.hid hQ
  have HV := Lib.hid hv
  have H1000 := Lib.hid ht
  have HL := Lib.hid hl
  have step : ∀ k, k < vs.length → (ls.take (k + 1)).flatten = (ls.take k).flatten ++ ls.getD k [] := fun k hk => by
    rw [List.take_add_one, List.flatten_append, List.getD_eq_getElem?_getD, List.getElem?_eq_getElem (by omega)]
    simp
  have small : ∀ k, (ls.take k).flatten.length ≤ ls.flatten.length := fun k => by
    have : ls.flatten.length = (ls.take k).flatten.length + (ls.drop k).flatten.length := by
      rw [← List.length_append, ← List.flatten_append, List.take_append_drop]
    omega
  have STEP := Lib.hid step
  have SMALL := Lib.hid small
  obtain ⟨T, hT⟩ : ∃ T, T = ls.flatten.length := ⟨_, rfl⟩
  have GROW := Lib.hid (show ∀ w, Calls Tryz.prog 119 #[.slice none 0 0, .int .i64 (T : Int)] w _ from fun w => grow_any w T (by omega) (by omega))
  have HT := Lib.hid hT.symm
  have CELL : ∀ w', Below W.heap.size W w' → ∀ k, k < vs.length → ∃ A c', vs.getD k undef = .slice A (ls.getD k []).length c' ∧ w'.cell? ⟨Q, k, none⟩ = some (.slice A (ls.getD k []).length c') ∧ Reads w' w'.heap.size 1 A (ls.getD k []).length (ints (ls.getD k [])) := fun w' hb k hk => by
    have hr := (hv k hk).below hb
    obtain ⟨A, c', e⟩ := hr.shape
    rw [ints_length] at e
    have hcell := cell_of_row w' Q k vs.toArray 33 (0, 0) ((hb.block Q (row_lt hQ)).trans hQ)
    have hg : vs.toArray[k]? = some (vs.getD k undef) := by
      rw [List.getElem?_toArray, List.getD_eq_getElem?_getD, List.getElem?_eq_getElem hk]; rfl
    rw [hg] at hcell
    refine ⟨A, c', e, by rw [hcell, e], by rw [ints_length, Nat.mul_one], fun h0 => ?_⟩
    have hat := hr
    rw [e] at hat
    have := hat.at.2
    obtain ⟨g, o, rfl, _, hlt⟩ := this 0 _ (ints_at h0)
    refine ⟨⟨g, o, none⟩, rfl, hlt, fun j u hj => ?_⟩
    obtain ⟨g', o', e', hc, _⟩ := this j u hj
    injection e' with e'
    injection e' with ea eb _
    rw [addr_add2, ea, eb]
    exact hc
  have CE := Lib.hid CELL
  clear hQ hv step small CELL ht0 hT ht
  go_enter Tryz.func97, Tryz.ntmps97
  go_wp2_with fail
  go_loopw [3, 11] (fun z i wr => ∃ k : Nat, i = .int .i64 k ∧ k ≤ vs.length ∧ z = .int .i64 ((ls.take k).flatten.length : Int) ∧ W = wr) (fun _ i _ => vs.length - (RowKit.intOf i).toNat)
  case atStart => exact ⟨0, rfl, by omega, by simp, rfl⟩
  case round =>
    obtain ⟨k, rfl, hk, rfl, rfl⟩ := hrel
    by_cases hlt : k < vs.length
    · obtain ⟨A, c', he, hcell, hrd⟩ := CE.out W (Below.refl _ _) k hlt
      have hs1 := SMALL.out (k + 1)
      rw [STEP.out k hlt, List.length_append] at hs1
      have h1000 := H1000.out
      have hneg : ¬ ((ls.take k).flatten.length : Int) + ((ls.getD k []).length : Int) < 0 := by omega
      have NX := Lib.hid (show ((ls.take k).flatten.length : Int) + ((ls.getD k []).length : Int) = ((ls.take (k + 1)).flatten.length : Int) by rw [STEP.out k hlt, List.length_append]; simp)
      have HLT := Lib.hid hlt
      obtain ⟨q1, hq1⟩ : ∃ q, q = (ls.take k).flatten.length := ⟨_, rfl⟩
      obtain ⟨q2, hq2⟩ : ∃ q, q = (ls.getD k []).length := ⟨_, rfl⟩
      rw [← hq1, ← hq2] at NX hneg hs1
      rw [← hq2] at hcell
      rw [← hq1]
      have hq : q1 + q2 ≤ 1000 := by omega
      clear he hrd hs1 h1000 hq1 hq2
      go_wp2
      go_roundw
      case rel => exact ⟨k + 1, by go_num, HLT.out, congrArg (Value.int .i64) NX.out, trivial⟩
      case measure => have := HLT.out; simp [RowKit.intOf]; omega
    · have hke : ls.take k = ls := List.take_of_length_le (by have := HL.out; omega)
      rw [hke, HT.out]
      have HK := Lib.hid (show k = vs.length by omega)
      clear hke
      go_wp2_with fail
      refine (GROW.out W).mono ?_
      rintro e w2 ⟨v, rfl, ho, hb⟩
      have O2 := Lib.hid ho
      have B2 := Lib.hid hb
      clear ho hb hlt hk
      go_wp2_with fail
      go_loopw [6, 27] (fun z i wr => ∃ q : Nat, i = .int .i64 q ∧ q ≤ vs.length ∧ wr.ownsRow W.heap.size 3 1 z (ls.take q).flatten.length (ints (ls.take q).flatten) ∧ Below W.heap.size W wr) (fun _ i _ => vs.length - (RowKit.intOf i).toNat)
      case atStart => exact ⟨0, rfl, by omega, O2.out, B2.out⟩
      case round =>
        obtain ⟨q, rfl, hq, ho3, hb3⟩ := hrel
        by_cases hlt : q < vs.length
        · obtain ⟨A, c', he, hcell, hrd⟩ := CE.out wr hb3 q hlt
          have O3 := Lib.hid ho3
          have B3 := Lib.hid hb3
          have RD := Lib.hid hrd
          have HLT := Lib.hid hlt
          have hs1 := SMALL.out (q + 1)
          rw [STEP.out q hlt, List.length_append] at hs1
          have h1000 := H1000.out
          have NX := Lib.hid (show ∀ (w' : World) (v' : Value), w'.ownsRow W.heap.size 3 1 v' ((ls.take q).flatten.length + (ls.getD q []).length) (ints (ls.take q).flatten ++ ints (ls.getD q [])) → w'.ownsRow W.heap.size 3 1 v' (ls.take (q + 1)).flatten.length (ints (ls.take (q + 1)).flatten) from fun w' v' h => by rw [STEP.out q hlt, List.length_append, ints_append]; exact h)
          have SZ := Lib.hid (show (ls.take q).flatten.length + (ls.getD q []).length ≤ maxLen ∧ ((ls.take q).flatten.length + (ls.getD q []).length) * 8 ≤ 140737488355328 by unfold maxLen; omega)
          have BS := Lib.hid hb3.size
          obtain ⟨lq, hlq⟩ : ∃ l, l = ls.getD q [] := ⟨_, rfl⟩
          rw [← hlq] at hcell RD NX SZ
          clear ho3 hb3 he hrd hs1 h1000 hlq
          go_wp2_with (at_builtin; refine wpList_append_any _ rfl (.tmp 31) (.tmp 32) _ rfl W.heap.size 3 i3 _ 1 8 Tryz.underlying33 hi3 hz3 hs3 hb3 rfl (by omega) u6 (ls.take q).flatten.length (ints (ls.take q).flatten) rfl O3.out _ A lq.length c' (ints lq) rfl RD.out (ints_one _) SZ.out.1 SZ.out.2 BS.out ?_; intro v5 w5 hown5 hgr5 hat5)
          have NO := Lib.hid (NX.out _ _ hown5)
          have NB := Lib.hid (B3.out.grown hgr5 B3.out.size (fun q hq => (own_lt O3.out hq).2))
          clear hown5 hgr5 hat5
          go_roundw
          case rel => exact ⟨q + 1, by go_num, HLT.out, NO.out, NB.out⟩
          case measure => have := HLT.out; simp [RowKit.intOf]; omega
        · have hke : ls.take q = ls := List.take_of_length_le (by have := HL.out; omega)
          rw [hke] at ho3
          have O3 := Lib.hid ho3
          have B3 := Lib.hid hb3
          clear ho3 hb3
          go_wp2_with fail
          go_ret
          exact ⟨_, rfl, O3.out, B3.out⟩
end Go.Proofs.YtnlolhlbpdmljaaGreatDoor
