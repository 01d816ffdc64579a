/-
  The sum of two texts, one behind the other, is More's: CrcMore answers true at every number and every two texts, and writes nothing that was there.
  Conditions: none.
-/
import Derived.Test.YtpocmbbnloccoaaOpen
namespace Go.Proofs.Ytpocmbbnloccoaa
open Go.ChangeShapes Go.WideShapes Go.ChangeAt Go.RowKit
open Go.ChangeMaps (open_string shut_string)


set_option maxRecDepth 100000 in
set_option maxHeartbeats 1000000 in
theorem walk_crcMore (x : BitVec 32) (s : ByteArray) (hs : s.size ≤ maxLen) (t : ByteArray) (ht : t.size ≤ maxLen) (w : World) :
    Calls Try.prog 5 #[.int .u32 (un x : Int), .string s, .string t] w fun e w' => e = .returned (.bool true) ∧ Below w.heap.size w w' := by
  have HS := Lib.hid hs
  have HT := Lib.hid ht
  unfold maxLen at hs ht
  by_cases hl : 800 < s.size
  · go_enter Try.func5, Try.ntmps5
    go_wp2_with fail
    refine (awake_any _).mono ?_
    rintro e w1 ⟨rfl, hb1⟩
    go_wp2_with fail
    refine (awake_any _).mono ?_
    rintro e w2 ⟨rfl, hb2⟩
    go_wp2
    go_ret
    exact ⟨rfl, hb1.trans (hb2.mono hb1.size)⟩
  · have hd : decide ((800 : Int) < (s.size : Int)) = false := decide_eq_false (by omega)
    by_cases hl2 : 800 < t.size
    · go_enter Try.func5, Try.ntmps5
      go_wp2_with fail
      refine (awake_any _).mono ?_
      rintro e w1 ⟨rfl, hb1⟩
      go_wp2_with fail
      refine (awake_any _).mono ?_
      rintro e w2 ⟨rfl, hb2⟩
      go_wp2
      go_ret
      exact ⟨rfl, hb1.trans (hb2.mono hb1.size)⟩
    · have hst : (s ++ t).size ≤ maxLen := by rw [ByteArray.size_append]; unfold maxLen; omega
      have HST := Lib.hid hst
      have E1 : ((un (moreP (sumP s.data.toList) t.data.toList) : Int) == (un (sumP (s.data.toList ++ t.data.toList)) : Int)) = true := by
        unfold sumP; rw [more_append]; simp
      have E2 : ((un (moreP (moreP x s.data.toList) t.data.toList) : Int) == (un (moreP x (s.data.toList ++ t.data.toList)) : Int)) = true := by
        rw [more_append]; simp
      have E3 : ((un (moreP x []) : Int) == (un x : Int)) = true := by
        rw [more_nil]; simp
      have H1 := Lib.hid E1
      have H2 := Lib.hid E2
      have H3 := Lib.hid E3
      clear E1 E2 E3 hst
      go_enter Try.func5, Try.ntmps5
      go_wp2_with fail
      refine (awake_any _).mono ?_
      rintro e w1 ⟨rfl, hb1⟩
      go_wp2_with fail
      refine (sum_any s HS.out _).mono ?_
      rintro e w2 ⟨rfl, hb2⟩
      have hb1 := hb1.trans (hb2.mono hb1.size)
      clear hb2
      go_wp2_with fail
      refine (more_any (sumP s.data.toList) t HT.out _).mono ?_
      rintro e w2 ⟨rfl, hb2⟩
      have hb1 := hb1.trans (hb2.mono hb1.size)
      clear hb2
      go_wp2_with fail
      refine (sum_any (s ++ t) HST.out _).mono ?_
      rintro e w2 ⟨rfl, hb2⟩
      have hb1 := hb1.trans (hb2.mono hb1.size)
      clear hb2
      have h1 := H1.out
      go_wp2_with fail
      clear h1
      refine (more_any x s HS.out _).mono ?_
      rintro e w2 ⟨rfl, hb2⟩
      have hb1 := hb1.trans (hb2.mono hb1.size)
      clear hb2
      go_wp2_with fail
      refine (more_any (moreP x s.data.toList) t HT.out _).mono ?_
      rintro e w2 ⟨rfl, hb2⟩
      have hb1 := hb1.trans (hb2.mono hb1.size)
      clear hb2
      go_wp2_with fail
      refine (more_any x (s ++ t) HST.out _).mono ?_
      rintro e w2 ⟨rfl, hb2⟩
      have hb1 := hb1.trans (hb2.mono hb1.size)
      clear hb2
      have h2 := H2.out
      go_wp2_with fail
      clear h2
      refine (more_any x (ByteArray.mk #[]) (by unfold maxLen; exact Nat.le_of_ble_eq_true rfl) _).mono ?_
      rintro e w2 ⟨rfl, hb2⟩
      have hb1 := hb1.trans (hb2.mono hb1.size)
      clear hb2
      have h3 := H3.out
      go_wp2
      go_ret
      exact ⟨rfl, hb1⟩

set_option maxRecDepth 100000 in
theorem crcMore_lifted (os : Os) (started : os.Started) (H : Type) (enc : TypeId × Value → H) :
    ReturnsInHanded {} Try.checked os 5 .any (Rows.crcMoreSpec.pre6 enc Try.prog Try.f5 Rows.crcMoreRow.domain false) (Rows.crcMoreSpec.post enc Try.prog Try.f5 false true false false) := by
  refine returnsInHanded_of_change (C := Try.checked) own started (by kernel_rfl) Try.func5
    (ChangeSpec.witness6 (enc := enc) (C := Try.checked) false ⟨#[], #[.int .u32 0, .string ByteArray.empty, .string ByteArray.empty], []⟩ 8 (by kernel_rfl) (by kernel_rfl) (by kernel_rfl) (by kernel_rfl)) ?_
  intro W base args ds gs before hval0 hW hcnd hsz
  have hval : ∀ (j : Nat) t v, Try.f5.params[j]? = some t → args[j]? = some v → Value.okWide Try.prog W .any base t v := hval0
  have hW' := hW
  obtain ⟨p, q, hA0, hV, rfl, hfz, hnd⟩ := hW
  have hA : DataW.TrodAll enc Try.prog W 0 (fun _ => true) true Try.f5.params.toList args.toList ds p := hA0
  rw [Try.params5] at hA hval
  obtain ⟨v0, vs0, d0, ds0, p0, q0, hargs, rfl, rfl, h0, r0⟩ := trodAll_cons hA
  obtain ⟨v1, vs1, d1, ds1, p1, q1, rfl, rfl, rfl, h1, r1⟩ := trodAll_cons r0
  obtain ⟨v2, vs2, d2, ds2, p2, q2, rfl, rfl, rfl, h2, r2⟩ := trodAll_cons r1
  obtain ⟨rfl, rfl, rfl⟩ := trodAll_nil r2
  obtain rfl : args = #[v0, v1, v2] := by cases args; simp_all
  obtain ⟨rfl, rfl⟩ := trodVars_none hV
  have k0 := h0
  have lt0 : ∀ x ∈ p0, x.block < W.heap.size := by obtain ⟨m, hm⟩ := k0; exact DataW.trod_lt m _ _ _ hm
  have k1 := h1
  have lt1 : ∀ x ∈ p1, x.block < W.heap.size := by obtain ⟨m, hm⟩ := k1; exact DataW.trod_lt m _ _ _ hm
  have k2 := h2
  have lt2 : ∀ x ∈ p2, x.block < W.heap.size := by obtain ⟨m, hm⟩ := k2; exact DataW.trod_lt m _ _ _ hm
  obtain ⟨a0, rfl, rfl, rfl, wa0⟩ := open_int Try.underlying23 (hval 0 23 v0 rfl rfl) h0
  obtain ⟨x0, rfl⟩ := of_u32 wa0
  obtain ⟨s1, rfl, rfl, rfl, ws1⟩ := open_string Try.underlying9 (hval 1 9 v1 rfl rfl) h1
  obtain ⟨s2, rfl, rfl, rfl, ws2⟩ := open_string Try.underlying9 (hval 2 9 v2 rfl rfl) h2
  clear hA0 hval0
  refine (walk_crcMore x0 s1 ws1 s2 ws2 W).mono fun e W' ⟨he, bel⟩ => ?_
  subst he
  exact ⟨_, rfl, _, _, _, [], _, [], hW', trodAll_mk1 (shut_bool Try.underlying4 _), (trodAll_cons_mk (Below.trod laidOut (by kernel_rfl) (of_decide_eq_true (by kernel_rfl)) k0 bel lt0) (trodAll_cons_mk (Below.trod laidOut (by kernel_rfl) (of_decide_eq_true (by kernel_rfl)) k1 bel lt1) (trodAll_cons_mk (Below.trod laidOut (by kernel_rfl) (of_decide_eq_true (by kernel_rfl)) k2 bel lt2) trodAll_mk0))), rfl, bel.frame _, fun h => by cases h⟩

theorem crcMore_holds : Rows.CrcMoreSaid :=
  OpenClaim.holds_of_wide 5 Try.f5 rfl rfl rfl rfl rfl rfl rfl ⟨rfl, rfl, rfl, rfl, rfl⟩ rfl rfl rfl rfl rfl (by kernel_rfl) Try.func5 (by kernel_rfl)
    (of_decide_eq_true (by kernel_rfl)) (by unfold Func.isWrapper; first | (rw [if_pos (by decide +kernel)]; kernel_rfl) | (rw [if_neg (by decide +kernel)]; exact ⟨rfl, rfl⟩))
    (fun os started H enc _ => crcMore_lifted os started H enc)

#print axioms crcMore_holds
end Go.Proofs.Ytpocmbbnloccoaa
