/-
  With more charge no other one is picked, but who couldn't: PickCharge answers true at every list of candidates and every two bytes, and writes nothing that was there.
  Conditions: none.
-/
import Derived.Test.YtcmbmocineegoaaCandP
namespace Go.Proofs.Ytcmbmocineegoaa
open Go.ChangeShapes Go.WideShapes Go.ChangeAt Go.RowKit

set_option maxRecDepth 100000 in
set_option maxHeartbeats 2000000 in
theorem charge_run (w : World) (A : Option Addr) (c : Nat) (l : List C3) (hr : CReads w w.heap.size A l) (hwf : ∀ j, j < l.length → -9223372036854775808 ≤ (at3 l j).2.2) (k m : Nat) (hk : k < 256) (hm : m < 256) (hl : l.length ≤ 60) (h0 : 0 < l.length) :
    Calls Try.prog 12 #[.slice A l.length c, .int .u8 (k : Int), .int .u8 (m : Int)] w fun e w' => e = .returned (.bool true) ∧ Below w.heap.size w w' := by
  have HR := Lib.hid hr
  have HWF := Lib.hid hwf
  have g1 : decide ((60 : Int) < (l.length : Int)) = false := decide_eq_false (by omega)
  have g2 : ((l.length : Int) == 0) = false := by rw [beq_eq_false_iff_ne]; omega
  have HH := Lib.hid h0
  have HK := Lib.hid hk
  have HM := Lib.hid hm
  obtain ⟨i, hi⟩ : ∃ i, i = k % l.length := ⟨_, rfl⟩
  have hil : i < l.length := by rw [hi]; exact Nat.mod_lt _ h0
  have HI := Lib.hid hi
  clear hr hwf hi
  go_enter Try.func12, Try.ntmps12
  go_wp2_with fail
  refine (awake22_any _).mono ?_
  rintro e w1 ⟨rfl, hb1⟩
  have B1 := Lib.hid hb1
  clear hb1
  go_wp2_with (first | refine l_val rfl (run_conv8 (x := .tmp 26) rfl rfl HK.out _) ?_ | (refine l_val rfl (run_rem_nat (x := .tmp 27) (y := .tmp 29) rfl rfl rfl HH.out _) ?_; rw [← HI.out]))
  refine (of_any w1 A c l ((HR.out.below B1.out).more B1.out.size) (by omega)).mono ?_
  rintro e w2 ⟨v, rfl, hown2, hb2⟩
  obtain ⟨g, cap, rfl, hBg, hT2⟩ := trow_of_own hown2 rfl h0
  have T2 := Lib.hid hT2
  have HBG := Lib.hid (show w.heap.size ≤ g from Nat.le_trans B1.out.size hBg)
  have B2 := Lib.hid (B1.out.trans (hb2.mono B1.out.size))
  clear hown2 hb2 hT2 hBg
  go_wp2_with fail
  refine (best_any w2 _ cap l T2.out.reads (by omega)).mono ?_
  rintro e w3 ⟨s, rfl, hp, hri, hb3⟩
  have PE := Lib.hid hp
  have RI := Lib.hid hri
  have T3 := Lib.hid (T2.out.keep (hb3.block g T2.out.lt))
  have B3 := Lib.hid (B2.out.trans (hb3.mono B2.out.size))
  have HCAP := Lib.hid T2.out.cap_
  obtain ⟨n1, hn1⟩ : ∃ n, n = (at_ s 0).2 := ⟨_, rfl⟩
  obtain ⟨ok1, hok1⟩ : ∃ b, b = decide (0 < s.length) := ⟨_, rfl⟩
  rw [← hn1, ← hok1]
  have N1 := Lib.hid hn1
  have OK1 := Lib.hid hok1
  obtain ⟨c1, c2, c3⟩ := T3.out.cell hil
  have f3 := T3.out.free (i * 3 + 2)
  have hwi := HWF.out i hil
  clear hp hri hb3 hn1 hok1 T2
  by_cases hbig : 1099511627776 < (at3 l i).2.2
  · have hb : decide (1099511627776 < (at3 l i).2.2) = true := decide_eq_true hbig
    go_wp2_with fail
    go_ret
    exact ⟨rfl, B3.out⟩
  · have hb : decide (1099511627776 < (at3 l i).2.2) = false := decide_eq_false hbig
    have hwr : IntKind.i64.wrap ((at3 l i).2.2 + (m : Int)) = (at3 l i).2.2 + (m : Int) := by rw [IntKind.wrap_i64]; have := HM.out; omega
    obtain ⟨W4, hW4⟩ : ∃ u, u = w3.setCell ⟨g, i * 3 + 2, none⟩ (.int .i64 ((at3 l i).2.2 + (m : Int))) := ⟨_, rfl⟩
    obtain ⟨l2, hl2⟩ : ∃ u, u = l.set i ((at3 l i).1, (at3 l i).2.1, (at3 l i).2.2 + (m : Int)) := ⟨_, rfl⟩
    have hl2l : l2.length = l.length := by rw [hl2]; simp
    have T4 := Lib.hid (show TRow W4 g cap l2 by rw [hW4, hl2]; exact T3.out.charge hil _)
    have B4 := Lib.hid (show Below w.heap.size w W4 by rw [hW4]; exact B3.out.setCell HBG.out _)
    have HW4 := Lib.hid hW4
    have BST := Lib.hid (best_any W4 (some ⟨g, 0, none⟩) cap l2 T4.out.reads (by omega))
    rw [hl2l] at BST
    have HL2 := Lib.hid hl2
    obtain ⟨ad, rfl, _, hcell⟩ := (HR.out.below B4.out) h0
    clear hW4 hl2 hl2l hcell
    go_wp2_with (refine l_val rfl (run_conv8 (x := .tmp 51) rfl rfl HM.out _) ?_)
    rw [← HW4.out]
    refine BST.out.mono ?_
    rintro e w5 ⟨t, rfl, hp, hri, hb5⟩
    have B5 := Lib.hid (B4.out.trans (hb5.mono B4.out.size))
    have LAW := charge_law hil (m : Int) (by omega) PE.out RI.out (by rw [← HL2.out]; exact hp) hri
    rw [← N1.out] at LAW
    obtain ⟨n2, hn2⟩ : ∃ n, n = (at_ t 0).2 := ⟨_, rfl⟩
    rw [← hn2] at LAW ⊢
    have HC := Lib.hid (creads_cell HR.out B5.out hil)
    clear hp hri hb5 hn2 c1 c2 c3 f3
    cases ok1 with
    | true =>
      obtain ⟨ht, hor⟩ := LAW.1 (of_decide_eq_true OK1.out.symm)
      have hdt : decide (0 < t.length) = true := decide_eq_true ht
      rw [hdt]
      clear LAW hdt ht
      by_cases e1 : n2 = n1
      · have e1b : (n2 == n1) = true := beq_iff_eq.2 e1
        clear hor e1
        go_wp2_with fail
        go_ret
        exact ⟨rfl, B5.out⟩
      · have e1b : (n2 == n1) = false := beq_eq_false_iff_ne.2 e1
        have e2b : (n2 == (at3 l i).1) = true := beq_iff_eq.2 (hor.resolve_left e1)
        clear hor e1
        go_wp2_with (first | refine l_val rfl (run_at_T Try.underlying44 size53 (x := .tmp 69) (y := .tmp 70) (ad := ad) (i := i) rfl rfl rfl hil _) ?_ | refine l_val rfl (run_load_int (x := .tmp 72) rfl Try.underlying3 rfl HC.out.1) ?_)
        go_ret
        exact ⟨rfl, B5.out⟩
    | false =>
      have hor := LAW.2 (of_decide_eq_false OK1.out.symm)
      clear LAW
      by_cases ht : 0 < t.length
      · have hdt : decide (0 < t.length) = true := decide_eq_true ht
        have e2b : (n2 == (at3 l i).1) = true := beq_iff_eq.2 (hor.resolve_left (fun h => h ht))
        rw [hdt]
        clear hor ht hdt
        go_wp2_with (first | refine l_val rfl (run_at_T Try.underlying44 size53 (x := .tmp 81) (y := .tmp 82) (ad := ad) (i := i) rfl rfl rfl hil _) ?_ | refine l_val rfl (run_load_int (x := .tmp 84) rfl Try.underlying3 rfl HC.out.1) ?_)
        go_ret
        exact ⟨rfl, B5.out⟩
      · have hdt : decide (0 < t.length) = false := decide_eq_false ht
        rw [hdt]
        clear hor ht hdt
        go_wp2_with fail
        go_ret
        exact ⟨rfl, B5.out⟩

set_option maxRecDepth 100000 in
set_option maxHeartbeats 1000000 in
theorem charge_long (w : World) (A : Option Addr) (c n : Nat) (k m : Nat) (hn : n ≤ maxLen) (h : 60 < n ∨ n = 0) :
    Calls Try.prog 12 #[.slice A n c, .int .u8 (k : Int), .int .u8 (m : Int)] w fun e w' => e = .returned (.bool true) ∧ Below w.heap.size w w' := by
  unfold maxLen at hn
  by_cases h1 : 60 < n
  · have g1 : decide ((60 : Int) < (n : Int)) = true := decide_eq_true (by omega)
    go_enter Try.func12, Try.ntmps12
    go_wp2_with fail
    refine (awake22_any _).mono ?_
    rintro e w1 ⟨rfl, hb1⟩
    go_wp2_with fail
    refine (awake22_any _).mono ?_
    rintro e w2 ⟨rfl, hb2⟩
    go_wp2
    go_ret
    exact ⟨rfl, (hb1.trans (hb2.mono hb1.size))⟩
  · have g1 : decide ((60 : Int) < (n : Int)) = false := decide_eq_false (by omega)
    obtain rfl : n = 0 := by omega
    go_enter Try.func12, Try.ntmps12
    go_wp2_with fail
    refine (awake22_any _).mono ?_
    rintro e w1 ⟨rfl, hb1⟩
    go_wp2_with fail
    refine (awake22_any _).mono ?_
    rintro e w2 ⟨rfl, hb2⟩
    go_wp2
    go_ret
    exact ⟨rfl, (hb1.trans (hb2.mono hb1.size))⟩

theorem walk_pickCharge (w : World) (A : Option Addr) (c : Nat) (l : List C3) (hm : l.length ≤ maxLen) (hr : CReads w w.heap.size A l) (hwf : ∀ j, j < l.length → -9223372036854775808 ≤ (at3 l j).2.2) (k : Nat) (hk : k < 256) (m : Nat) (hm2 : m < 256) :
    Calls Try.prog 12 #[.slice A l.length c, .int .u8 (k : Int), .int .u8 (m : Int)] w fun e w' => e = .returned (.bool true) ∧ Below w.heap.size w w' := by
  by_cases h : 60 < l.length ∨ l.length = 0
  · exact charge_long w A c _ k m hm h
  · exact charge_run w A c l hr hwf k m hk hm2 (by omega) (by omega)

set_option maxRecDepth 100000 in
theorem pickCharge_lifted (os : Os) (started : os.Started) (H : Type) (enc : TypeId × Value → H) :
    ReturnsInHanded {} Try.checked os 12 .any (Rows.pickChargeSpec.pre6 enc Try.prog Try.f12 Rows.pickChargeRow.domain false) (Rows.pickChargeSpec.post enc Try.prog Try.f12 false true false false) := by
  refine returnsInHanded_of_change (C := Try.checked) own started (by kernel_rfl) Try.func12
    (ChangeSpec.witness6 (enc := enc) (C := Try.checked) false ⟨#[], #[.slice none 0 0, .int .u8 0, .int .u8 0], []⟩ 8 (by kernel_rfl) (by kernel_rfl) (by kernel_rfl) (by kernel_rfl)) ?_
  intro W base args ds gs before hval0 hW hcnd hsz
  have hval : ∀ (j : Nat) t v, Try.f12.params[j]? = some t → args[j]? = some v → Value.okWide Try.prog W .any base t v := hval0
  have hW' := hW
  obtain ⟨p, q, hA0, hV, rfl, hfz, hnd⟩ := hW
  have hA : DataW.TrodAll enc Try.prog W 0 (fun _ => true) true Try.f12.params.toList args.toList ds p := hA0
  rw [Try.params12] at hA hval
  obtain ⟨v0, vs0, d0, ds0, p0, q0, hargs, rfl, rfl, h0, r0⟩ := trodAll_cons hA
  obtain ⟨v1, vs1, d1, ds1, p1, q1, rfl, rfl, rfl, h1, r1⟩ := trodAll_cons r0
  obtain ⟨v2, vs2, d2, ds2, p2, q2, rfl, rfl, rfl, h2, r2⟩ := trodAll_cons r1
  obtain ⟨rfl, rfl, rfl⟩ := trodAll_nil r2
  obtain rfl : args = #[v0, v1, v2] := by cases args; simp_all
  obtain ⟨rfl, rfl⟩ := trodVars_none hV
  have k0 := h0
  have lt0 : ∀ x ∈ p0, x.block < W.heap.size := by obtain ⟨m, hm⟩ := k0; exact DataW.trod_lt m _ _ _ hm
  have k1 := h1
  have lt1 : ∀ x ∈ p1, x.block < W.heap.size := by obtain ⟨m, hm⟩ := k1; exact DataW.trod_lt m _ _ _ hm
  have k2 := h2
  have lt2 : ∀ x ∈ p2, x.block < W.heap.size := by obtain ⟨m, hm⟩ := k2; exact DataW.trod_lt m _ _ _ hm
  obtain ⟨A0, c0, l0, rfl, hm0, hr0, hw0⟩ := open_cands (hval 0 44 v0 rfl rfl) h0
  obtain ⟨n1, rfl, hb1⟩ := open_u8 (hval 1 5 v1 rfl rfl) h1
  obtain ⟨n2, rfl, hb2⟩ := open_u8 (hval 2 5 v2 rfl rfl) h2
  clear hA0 hval0
  refine (walk_pickCharge W A0 c0 l0 hm0 hr0 hw0 n1 hb1 n2 hb2).mono fun e W' ⟨he, bel⟩ => ?_
  subst he
  exact ⟨_, rfl, _, _, _, [], _, [], hW', trodAll_mk1 (shut_bool Try.underlying4 _), (trodAll_cons_mk (Below.trod laidOut (by kernel_rfl) (of_decide_eq_true (by kernel_rfl)) k0 bel lt0) (trodAll_cons_mk (Below.trod laidOut (by kernel_rfl) (of_decide_eq_true (by kernel_rfl)) k1 bel lt1) (trodAll_cons_mk (Below.trod laidOut (by kernel_rfl) (of_decide_eq_true (by kernel_rfl)) k2 bel lt2) trodAll_mk0))), rfl, bel.frame _, fun h => by cases h⟩

theorem pickCharge_holds : Rows.PickChargeSaid :=
  OpenClaim.holds_of_wide 12 Try.f12 rfl rfl rfl rfl rfl rfl rfl ⟨rfl, rfl, rfl, rfl, rfl⟩ rfl rfl rfl rfl rfl (by kernel_rfl) Try.func12 (by kernel_rfl)
    (of_decide_eq_true (by kernel_rfl)) (by unfold Func.isWrapper; first | (rw [if_pos (by decide +kernel)]; kernel_rfl) | (rw [if_neg (by decide +kernel)]; exact ⟨rfl, rfl⟩))
    (fun os started H enc _ => pickCharge_lifted os started H enc)

#print axioms pickCharge_holds
end Go.Proofs.Ytcmbmocineegoaa
