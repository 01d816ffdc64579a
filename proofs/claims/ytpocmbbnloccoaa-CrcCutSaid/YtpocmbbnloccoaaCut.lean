/-
  The sum of a text is told by that of its beginning: CrcCut answers true at every text and every place, and writes nothing that was there.
  Conditions: none.
-/
import Derived.Test.YtpocmbbnloccoaaClass
namespace Go.Proofs.Ytpocmbbnloccoaa
open Go.ChangeShapes Go.WideShapes Go.ChangeAt Go.RowKit
open Go.ChangeMaps (open_string shut_string)

set_option maxRecDepth 100000 in
set_option maxHeartbeats 1000000 in
theorem walk_crcCut (s : ByteArray) (hs : s.size ≤ maxLen) (a : Nat) (ha : a < 65536) (w : World) :
    Calls Try.prog 8 #[.string s, .int .u16 (a : Int)] w fun e w' => e = .returned (.bool true) ∧ Below w.heap.size w w' := by
  have HS := Lib.hid hs
  by_cases hl : 800 < s.size
  · unfold maxLen at hs
    go_enter Try.func8, Try.ntmps8
    go_wp2_with fail
    refine (awake_any _).mono ?_
    rintro e w1 ⟨rfl, hb1⟩
    go_wp2_with fail
    refine (awake_any _).mono ?_
    rintro e w2 ⟨rfl, hb2⟩
    go_wp2
    go_ret
    exact ⟨rfl, hb1.trans (hb2.mono hb1.size)⟩
  · obtain ⟨k, hk⟩ : ∃ k, k = a % (s.size + 1) := ⟨_, rfl⟩
    have hks : k ≤ s.size := by have := Nat.mod_lt a (show 0 < s.size + 1 by omega); omega
    have HK := Lib.hid hks
    have HH := Lib.hid (show (s.extract 0 k).size ≤ maxLen by rw [size_hi s k hks]; unfold maxLen; omega)
    have HL := Lib.hid (show (s.extract k s.size).size ≤ maxLen by rw [ByteArray.size_extract]; unfold maxLen; omega)
    have HE := Lib.hid (show ((un (moreP (sumP (s.extract 0 k).data.toList) (s.extract k s.size).data.toList) : Int) == (un (sumP s.data.toList) : Int)) = true by
      rw [list_hi, list_lo]; unfold sumP; rw [more_append, List.take_append_drop]; simp)
    have hka : ((a : Int) % ((s.size : Int) + 1)) = (k : Int) := by rw [hk]; simp
    have hd : decide ((800 : Int) < (s.size : Int)) = false := decide_eq_false (by omega)
    have HKA := Lib.hid hka
    clear hk hs hka
    go_enter Try.func8, Try.ntmps8
    go_wp2_with fail
    refine (awake_any _).mono ?_
    rintro e W ⟨rfl, hb1⟩
    go_wp2_with fail
    rw [HKA.out]
    refine region_class (fun w' => Below W.heap.size W w') (by kernel_rfl) (by kernel_rfl) (Below.refl _ _).drew ?_
    refine q_move_is rfl (.tmp 0) (.string s) rfl rfl ?_
    simp only [Act.put, List.setIfInBounds_toArray, List.set_cons_succ, List.set_cons_zero]
    refine q_move_is rfl (.tmp 5) (.int .i64 k) rfl rfl ?_
    simp only [Act.put, List.setIfInBounds_toArray, List.set_cons_succ, List.set_cons_zero]
    refine q_val rfl (fun w' hw' => run_slice_hi (x := .tmp 20) (y := .tmp 21) rfl Try.underlying9 rfl rfl HK.out w') ?_
    simp only [Act.put, List.setIfInBounds_toArray, List.set_cons_succ, List.set_cons_zero]
    refine q_call rfl (args := #[.string (s.extract 0 k)]) (fun w' hw' => run_call1 (u := .string (s.extract 0 k)) rfl Try.call10 rfl w') (fun w' hw' => class_sum (Nat.le_refl _) hw' (s.extract 0 k) HH.out) ?_
    simp only [Act.put, List.setIfInBounds_toArray, List.set_cons_succ, List.set_cons_zero]
    refine q_move_is rfl (.tmp 0) (.string s) rfl rfl ?_
    simp only [Act.put, List.setIfInBounds_toArray, List.set_cons_succ, List.set_cons_zero]
    refine q_move_is rfl (.tmp 5) (.int .i64 k) rfl rfl ?_
    simp only [Act.put, List.setIfInBounds_toArray, List.set_cons_succ, List.set_cons_zero]
    refine q_val rfl (fun w' hw' => run_slice_lo (x := .tmp 24) (y := .tmp 25) rfl Try.underlying9 rfl rfl HK.out w') ?_
    simp only [Act.put, List.setIfInBounds_toArray, List.set_cons_succ, List.set_cons_zero]
    refine q_call rfl (args := #[.int .u32 (un (sumP (s.extract 0 k).data.toList) : Int), .string (s.extract k s.size)]) (fun w' hw' => run_call2 (u := .int .u32 (un (sumP (s.extract 0 k).data.toList) : Int)) (v := .string (s.extract k s.size)) rfl Try.call12 rfl rfl w') (fun w' hw' => class_more (Nat.le_refl _) hw' (sumP (s.extract 0 k).data.toList) (s.extract k s.size) HL.out) ?_
    simp only [Act.put, List.setIfInBounds_toArray, List.set_cons_succ, List.set_cons_zero]
    refine q_move_is rfl (.tmp 0) (.string s) rfl rfl ?_
    simp only [Act.put, List.setIfInBounds_toArray, List.set_cons_succ, List.set_cons_zero]
    refine q_call rfl (args := #[.string s]) (fun w' hw' => run_call1 (u := .string s) rfl Try.call10 rfl w') (fun w' hw' => class_sum (Nat.le_refl _) hw' s HS.out) ?_
    simp only [Act.put, List.setIfInBounds_toArray, List.set_cons_succ, List.set_cons_zero]
    refine q_val rfl (fun w' hw' => (run_eql_int_is (x := .tmp 27) (y := .tmp 29) rfl rfl rfl true HE.out w')) ?_
    simp only [Act.put, List.setIfInBounds_toArray, List.set_cons_succ, List.set_cons_zero]
    refine q_assign_is rfl (.tmp 30) (.bool true) rfl rfl ?_
    simp only [Act.put, List.setIfInBounds_toArray, List.set_cons_succ, List.set_cons_zero]
    refine wpQuiet_nil ?_
    intro w' hw'
    go_wp2
    go_ret
    exact ⟨rfl, hb1.trans (hw'.mono hb1.size)⟩

set_option maxRecDepth 100000 in
theorem crcCut_lifted (os : Os) (started : os.Started) (H : Type) (enc : TypeId × Value → H) :
    ReturnsInHanded {} Try.checked os 8 .any (Rows.crcCutSpec.pre6 enc Try.prog Try.f8 Rows.crcCutRow.domain false) (Rows.crcCutSpec.post enc Try.prog Try.f8 false true false false) := by
  refine returnsInHanded_of_change (C := Try.checked) own started (by kernel_rfl) Try.func8
    (ChangeSpec.witness6 (enc := enc) (C := Try.checked) false ⟨#[], #[.string ByteArray.empty, .int .u16 0], []⟩ 8 (by kernel_rfl) (by kernel_rfl) (by kernel_rfl) (by kernel_rfl)) ?_
  intro W base args ds gs before hval0 hW hcnd hsz
  have hval : ∀ (j : Nat) t v, Try.f8.params[j]? = some t → args[j]? = some v → Value.okWide Try.prog W .any base t v := hval0
  have hW' := hW
  obtain ⟨p, q, hA0, hV, rfl, hfz, hnd⟩ := hW
  have hA : DataW.TrodAll enc Try.prog W 0 (fun _ => true) true Try.f8.params.toList args.toList ds p := hA0
  rw [Try.params8] at hA hval
  obtain ⟨v0, vs0, d0, ds0, p0, q0, hargs, rfl, rfl, h0, r0⟩ := trodAll_cons hA
  obtain ⟨v1, vs1, d1, ds1, p1, q1, rfl, rfl, rfl, h1, r1⟩ := trodAll_cons r0
  obtain ⟨rfl, rfl, rfl⟩ := trodAll_nil r1
  obtain rfl : args = #[v0, v1] := by cases args; simp_all
  obtain ⟨rfl, rfl⟩ := trodVars_none hV
  have k0 := h0
  have lt0 : ∀ x ∈ p0, x.block < W.heap.size := by obtain ⟨m, hm⟩ := k0; exact DataW.trod_lt m _ _ _ hm
  have k1 := h1
  have lt1 : ∀ x ∈ p1, x.block < W.heap.size := by obtain ⟨m, hm⟩ := k1; exact DataW.trod_lt m _ _ _ hm
  obtain ⟨s0, rfl, rfl, rfl, ws0⟩ := open_string Try.underlying9 (hval 0 9 v0 rfl rfl) h0
  obtain ⟨a1, rfl, rfl, rfl, wa1⟩ := open_int Try.underlying26 (hval 1 26 v1 rfl rfl) h1
  obtain ⟨x1, hx1, rfl⟩ := of_u16 wa1
  clear hA0 hval0
  refine (walk_crcCut s0 ws0 x1 hx1 W).mono fun e W' ⟨he, bel⟩ => ?_
  subst he
  exact ⟨_, rfl, _, _, _, [], _, [], hW', trodAll_mk1 (shut_bool Try.underlying4 _), (trodAll_cons_mk (Below.trod laidOut (by kernel_rfl) (of_decide_eq_true (by kernel_rfl)) k0 bel lt0) (trodAll_cons_mk (Below.trod laidOut (by kernel_rfl) (of_decide_eq_true (by kernel_rfl)) k1 bel lt1) trodAll_mk0)), rfl, bel.frame _, fun h => by cases h⟩

theorem crcCut_holds : Rows.CrcCutSaid :=
  OpenClaim.holds_of_wide 8 Try.f8 rfl rfl rfl rfl rfl rfl rfl ⟨rfl, rfl, rfl, rfl, rfl⟩ rfl rfl rfl rfl rfl (by kernel_rfl) Try.func8 (by kernel_rfl)
    (of_decide_eq_true (by kernel_rfl)) (by unfold Func.isWrapper; first | (rw [if_pos (by decide +kernel)]; kernel_rfl) | (rw [if_neg (by decide +kernel)]; exact ⟨rfl, rfl⟩))
    (fun os started H enc _ => crcCut_lifted os started H enc)

#print axioms crcCut_holds
end Go.Proofs.Ytpocmbbnloccoaa
