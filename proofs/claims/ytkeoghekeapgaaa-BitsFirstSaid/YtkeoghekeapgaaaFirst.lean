/-
  The first number that is not in a set, between two, is the document's: BitsFirst answers true at every set of thirty bytes and every two numbers, and writes nothing that was there.
  Conditions: none.
-/
import Derived.Test.YtkeoghekeapgaaaOpen
namespace Go.Proofs.Ytkeoghekeapgaaa
open Go.ChangeShapes Go.WideShapes Go.ChangeAt Go.RowKit

set_option maxRecDepth 100000 in
set_option maxHeartbeats 1000000 in
theorem walk_bitsFirst (ns : List Nat) (hs : Set30 ns) (f : Int) (_hf : (Lit.int .i64 f).wf = true) (t : Int) (_ht : (Lit.int .i64 t).wf = true) (w : World) :
    Calls Try.prog 3 #[.agg (Bv ns), .int .i64 f, .int .i64 t] w fun e w' => e = .returned (.bool true) ∧ Below w.heap.size w w' := by
  have K0 := Lib.hid (heap_alloc_new w (.cells (Bv ns) 22))
  have KB := Lib.hid ((Below.refl w.heap.size w).alloc (Nat.le_refl _) (.cells (Bv ns) 22))
  go_enter Try.func3, Try.ntmps3
  go_wp2_with fail
  refine (awake_any _).mono ?_
  rintro e w1 ⟨rfl, hb1⟩
  have hb1' : Below (w.heap.size + 1) (w.alloc (.cells (Bv ns) 22)) w1 := hb1.mono (by simp)
  have KW1 := Lib.hid ((hb1'.block w.heap.size (by omega)).trans K0.out)
  have KB1 := Lib.hid (KB.out.trans (hb1'.mono (by omega)))
  clear hb1 hb1'
  go_wp2_with (refine load_set rfl (.tmp 3) 22 rfl w.heap.size rfl 22 ns hs 5 Try.underlying22 size22 ?_ ?_)
  · exact KW1.out
  refine (first_any ns hs f t _).mono ?_
  rintro e w2 ⟨n, ok, rfl, hF, hb2⟩
  have hsz1 : w.heap.size < w1.heap.size := by
    by_cases h : w.heap.size < w1.heap.size
    · exact h
    · have := KW1.out
      rw [Array.getElem?_eq_none (by omega)] at this; cases this
  have KW2 := Lib.hid ((hb2.block w.heap.size hsz1).trans KW1.out)
  have KB2 := Lib.hid (KB1.out.trans (hb2.mono (by omega)))
  clear hb2 hsz1
  rcases hF with ⟨rfl, k0, rfl, hk0, hfk, hkt, hm, hall⟩ | ⟨rfl, rfl, hall⟩
  · have HM := Lib.hid hm
    have HALL := Lib.hid hall
    clear hm hall
    go_wp2_with fail
    go_loopw [9] (fun i wr => ∃ k : Nat, k ≤ k0 ∧ i = .int .i64 k ∧ wr.heap[w.heap.size]? = some (.cells (Bv ns) 22 (0, 0)) ∧ Below w.heap.size w wr) (fun i _ => 240 - (intOf i).toNat)
    case atStart => exact ⟨0, by omega, rfl, KW2.out, KB2.out⟩
    case round =>
      obtain ⟨k, hk, rfl, hr, hB⟩ := hrel
      have R0 := Lib.hid hr
      have RB := Lib.hid hB
      have hsz : w.heap.size ≤ wr.heap.size := hB.size
      have hlt : w.heap.size < wr.heap.size := by
        by_cases h : w.heap.size < wr.heap.size
        · exact h
        · rw [Array.getElem?_eq_none (by omega)] at hr; cases hr
      have HLT := Lib.hid hlt
      clear hr hB hsz hlt
      have hk240 : k < 240 := by omega
      have hmem := hasP_nat (ns := ns) hk240
      by_cases hkk : k = k0
      · have hh : hasP ns (k : Int) = false := by rw [hmem, hkk]; exact HM.out
        subst hkk
        clear hmem
        go_wp2_with (first | (refine load_set rfl (.tmp 3) 22 rfl w.heap.size rfl 22 ns hs 5 Try.underlying22 size22 ?_ ?_) | (go_at_call 10; refine (refHas_any ns _ _ hs).mono ?_; rintro e w' ⟨rfl, hb3⟩))
        · exact R0.out
        go_ret
        exact ⟨ret_bool (by simp), RB.out.trans (hb3.mono (Nat.le_of_lt HLT.out))⟩
      · by_cases hfk' : f ≤ (k : Int)
        · have hkt' : (k : Int) < t := by omega
          have hh : hasP ns (k : Int) = true := by rw [hmem]; exact HALL.out k hfk' (by omega)
          clear hmem
          go_wp2_with (first | (refine load_set rfl (.tmp 3) 22 rfl w.heap.size rfl 22 ns hs 5 Try.underlying22 size22 ?_ ?_) | (go_at_call 10; refine (refHas_any ns _ _ hs).mono ?_; rintro e w' ⟨rfl, hb3⟩))
          · exact R0.out
          go_roundw
          case rel => exact ⟨k + 1, by omega, by go_num, (hb3.block _ HLT.out).trans R0.out, RB.out.trans (hb3.mono (Nat.le_of_lt HLT.out))⟩
          case measure => simp [intOf]; omega
        · have hge : ¬ f ≤ (k : Int) := hfk'
          clear hmem
          go_wp2_with fail
          go_roundw
          case rel => exact ⟨k + 1, by omega, by go_num, R0.out, RB.out⟩
          case measure => simp [intOf]; omega
  · have HALL := Lib.hid hall
    clear hall
    go_wp2_with fail
    go_loopw [9] (fun i wr => ∃ k : Nat, k ≤ 240 ∧ i = .int .i64 k ∧ wr.heap[w.heap.size]? = some (.cells (Bv ns) 22 (0, 0)) ∧ Below w.heap.size w wr) (fun i _ => 240 - (intOf i).toNat)
    case atStart => exact ⟨0, by omega, rfl, KW2.out, KB2.out⟩
    case round =>
      obtain ⟨k, hk, rfl, hr, hB⟩ := hrel
      have R0 := Lib.hid hr
      have RB := Lib.hid hB
      have hsz : w.heap.size ≤ wr.heap.size := hB.size
      have hlt : w.heap.size < wr.heap.size := by
        by_cases h : w.heap.size < wr.heap.size
        · exact h
        · rw [Array.getElem?_eq_none (by omega)] at hr; cases hr
      have HLT := Lib.hid hlt
      clear hr hB hsz hlt
      by_cases hk240 : k < 240
      · have hmem := hasP_nat (ns := ns) hk240
        by_cases hfk' : f ≤ (k : Int)
        · by_cases hkt' : (k : Int) < t
          · have hh : hasP ns (k : Int) = true := by rw [hmem]; exact HALL.out k hk240 hfk' hkt'
            clear hmem
            go_wp2_with (first | (refine load_set rfl (.tmp 3) 22 rfl w.heap.size rfl 22 ns hs 5 Try.underlying22 size22 ?_ ?_) | (go_at_call 10; refine (refHas_any ns _ _ hs).mono ?_; rintro e w' ⟨rfl, hb3⟩))
            · exact R0.out
            go_roundw
            case rel => exact ⟨k + 1, by omega, by go_num, (hb3.block _ HLT.out).trans R0.out, RB.out.trans (hb3.mono (Nat.le_of_lt HLT.out))⟩
            case measure => simp [intOf]; omega
          · have hge : ¬ (k : Int) < t := hkt'
            clear hmem
            go_wp2_with fail
            go_roundw
            case rel => exact ⟨k + 1, by omega, by go_num, R0.out, RB.out⟩
            case measure => simp [intOf]; omega
        · have hge : ¬ f ≤ (k : Int) := hfk'
          clear hmem
          go_wp2_with fail
          go_roundw
          case rel => exact ⟨k + 1, by omega, by go_num, R0.out, RB.out⟩
          case measure => simp [intOf]; omega
      · have hkk : k = 240 := by omega
        subst hkk
        go_wp2_with fail
        go_ret
        exact ⟨rfl, RB.out⟩

set_option maxRecDepth 100000 in
theorem bitsFirst_lifted (os : Os) (started : os.Started) (H : Type) (enc : TypeId × Value → H) :
    ReturnsInHanded {} Try.checked os 3 .any (Rows.bitsFirstSpec.pre6 enc Try.prog Try.f3 Rows.bitsFirstRow.domain false) (Rows.bitsFirstSpec.post enc Try.prog Try.f3 false true false false) := by
  refine returnsInHanded_of_change (C := Try.checked) own started (by kernel_rfl) Try.func3
    (ChangeSpec.witness6 (enc := enc) (C := Try.checked) false ⟨#[], #[.agg #[.int .u8 0, .int .u8 0, .int .u8 0, .int .u8 0, .int .u8 0, .int .u8 0, .int .u8 0, .int .u8 0, .int .u8 0, .int .u8 0, .int .u8 0, .int .u8 0, .int .u8 0, .int .u8 0, .int .u8 0, .int .u8 0, .int .u8 0, .int .u8 0, .int .u8 0, .int .u8 0, .int .u8 0, .int .u8 0, .int .u8 0, .int .u8 0, .int .u8 0, .int .u8 0, .int .u8 0, .int .u8 0, .int .u8 0, .int .u8 0], .int .i64 0, .int .i64 0], []⟩ 8 (by kernel_rfl) (by kernel_rfl) (by kernel_rfl) (by kernel_rfl)) ?_
  intro W base args ds gs before hval0 hW hcnd hsz
  have hval : ∀ (j : Nat) t v, Try.f3.params[j]? = some t → args[j]? = some v → Value.okWide Try.prog W .any base t v := hval0
  have hW' := hW
  obtain ⟨p, q, hA0, hV, rfl, hfz, hnd⟩ := hW
  have hA : DataW.TrodAll enc Try.prog W 0 (fun _ => true) true Try.f3.params.toList args.toList ds p := hA0
  rw [Try.params3] at hA hval
  obtain ⟨v0, vs0, d0, ds0, p0, q0, hargs, rfl, rfl, h0, r0⟩ := trodAll_cons hA
  obtain ⟨v1, vs1, d1, ds1, p1, q1, rfl, rfl, rfl, h1, r1⟩ := trodAll_cons r0
  obtain ⟨v2, vs2, d2, ds2, p2, q2, rfl, rfl, rfl, h2, r2⟩ := trodAll_cons r1
  obtain ⟨rfl, rfl, rfl⟩ := trodAll_nil r2
  obtain rfl : args = #[v0, v1, v2] := by cases args; simp_all
  obtain ⟨rfl, rfl⟩ := trodVars_none hV
  have k0 := h0
  have lt0 : ∀ x ∈ p0, x.block < W.heap.size := by obtain ⟨m, hm⟩ := k0; exact DataW.trod_lt m _ _ _ hm
  have k1 := h1
  have lt1 : ∀ x ∈ p1, x.block < W.heap.size := by obtain ⟨m, hm⟩ := k1; exact DataW.trod_lt m _ _ _ hm
  have k2 := h2
  have lt2 : ∀ x ∈ p2, x.block < W.heap.size := by obtain ⟨m, hm⟩ := k2; exact DataW.trod_lt m _ _ _ hm
  obtain ⟨s0, rfl, hs0⟩ := open_set (hval 0 22 v0 rfl rfl) h0
  obtain ⟨a1, rfl, rfl, rfl, w1⟩ := open_int Try.underlying3 (hval 1 3 v1 rfl rfl) h1
  obtain ⟨a2, rfl, rfl, rfl, w2⟩ := open_int Try.underlying3 (hval 2 3 v2 rfl rfl) h2
  clear hA0 hval0
  refine (walk_bitsFirst s0 hs0 a1 w1 a2 w2 W).mono fun e W' ⟨he, bel⟩ => ?_
  subst he
  exact ⟨_, rfl, _, _, _, [], _, [], hW', trodAll_mk1 (shut_bool Try.underlying4 _), (trodAll_cons_mk (Below.trod laidOut (by kernel_rfl) (of_decide_eq_true (by kernel_rfl)) k0 bel lt0) (trodAll_cons_mk (Below.trod laidOut (by kernel_rfl) (of_decide_eq_true (by kernel_rfl)) k1 bel lt1) (trodAll_cons_mk (Below.trod laidOut (by kernel_rfl) (of_decide_eq_true (by kernel_rfl)) k2 bel lt2) trodAll_mk0))), rfl, bel.frame _, fun h => by cases h⟩

theorem bitsFirst_holds : Rows.BitsFirstSaid :=
  OpenClaim.holds_of_wide 3 Try.f3 rfl rfl rfl rfl rfl rfl rfl ⟨rfl, rfl, rfl, rfl, rfl⟩ rfl rfl rfl rfl rfl (by kernel_rfl) Try.func3 (by kernel_rfl)
    (of_decide_eq_true (by kernel_rfl)) (by unfold Func.isWrapper; first | (rw [if_pos (by decide +kernel)]; kernel_rfl) | (rw [if_neg (by decide +kernel)]; exact ⟨rfl, rfl⟩))
    (fun os started H enc _ => bitsFirst_lifted os started H enc)

#print axioms bitsFirst_holds
end Go.Proofs.Ytkeoghekeapgaaa
