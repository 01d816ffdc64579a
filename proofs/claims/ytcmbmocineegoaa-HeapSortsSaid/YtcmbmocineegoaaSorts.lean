/-
  Items sorted rise, and are the items, each as often as it was: HeapSorts answers true at every list and item, and writes nothing that was there.
  Conditions: none.
-/
import Derived.Test.YtcmbmocineegoaaQuiet
namespace Go.Proofs.Ytcmbmocineegoaa
open Go.ChangeShapes Go.WideShapes Go.ChangeAt Go.RowKit

set_option maxRecDepth 100000 in
set_option maxHeartbeats 1000000 in
theorem sorts_run (w : World) (A : Option Addr) (c : Nat) (l : List D) (x : D) (hr : DReads w w.heap.size A l) (hl : l.length ≤ 200) :
    Calls Try.prog 6 #[.slice A l.length c, dv x] w fun e w' => e = .returned (.bool true) ∧ Below w.heap.size w w' := by
  have HR := Lib.hid hr
  have g1 : decide ((200 : Int) < (l.length : Int)) = false := decide_eq_false (by omega)
  clear hr
  unfold dv
  go_enter Try.func6, Try.ntmps6
  go_wp2_with fail
  refine (awake_any _).mono ?_
  rintro e w1 ⟨rfl, hb1⟩
  have B1 := Lib.hid (((Below.refl w.heap.size w).alloc (Nat.le_refl _) (.cells #[.int .i64 x.1, .int .i64 x.2] 30)).trans (hb1.mono (by simp)))
  obtain ⟨X, hX⟩ : ∃ X, X = w.heap.size := ⟨_, rfl⟩
  have R1 := Lib.hid (show w1.heap[X]? = some (.cells #[.int .i64 x.1, .int .i64 x.2] 30 (0, 0)) by rw [hX]; exact (hb1.block _ (by simp)).trans (heap_alloc_new w _))
  have HXX := Lib.hid hX
  clear hb1
  go_wp2_with fail
  refine (sorted_any w1 A c l ((HR.out.below B1.out).more B1.out.size) (by omega)).mono ?_
  rintro e w2 ⟨v, s, rfl, hO, hp, hri, hb2⟩
  have O2 := Lib.hid (own_base hO B1.out.size)
  have PE := Lib.hid hp
  have RI := Lib.hid hri
  have B2 := Lib.hid (B1.out.trans (hb2.mono B1.out.size))
  have RX2 := Lib.hid (keep_row R1.out hb2)
  have HSL := Lib.hid (show s.length = l.length from hp.length_eq)
  obtain ⟨a3, c3, hv3⟩ := own_slice hO
  subst hv3
  clear hO hp hri hb2
  go_wp2_with fail
  rw [← HXX.out]
  clear hX
  go_loopw [6, 7, 8] (fun a b i wr => ∃ k : Nat, a = .int .i64 (((l.take k).count x : Nat) : Int) ∧ b = .int .i64 (((s.take k).count x : Nat) : Int) ∧ i = .int .i64 k ∧ k ≤ l.length ∧ wr.heap[X]? = some (.cells #[.int .i64 x.1, .int .i64 x.2] 30 (0, 0)) ∧ wr.ownsRow w.heap.size 30 2 (.slice a3 s.length c3) s.length (dcells s) ∧ Below w.heap.size w wr) (fun _ _ i _ => l.length - (intOf i).toNat)
  case atStart => exact ⟨0, by simp, by simp, rfl, by omega, RX2.out, O2.out, B2.out⟩
  case round =>
    obtain ⟨k, hn1, hn2, rfl, hk, hX, hO, hb⟩ := hrel
    obtain ⟨n1, hN1⟩ : ∃ n, n = (l.take k).count x := ⟨_, rfl⟩
    obtain ⟨n2, hN2⟩ : ∃ n, n = (s.take k).count x := ⟨_, rfl⟩
    rw [← hN1] at hn1
    rw [← hN2] at hn2
    subst hn1
    subst hn2
    have hc1 : n1 ≤ 1000 := by rw [hN1]; have := List.count_le_length (a := x) (l := l.take k); rw [List.length_take] at this; omega
    have hc2 : n2 ≤ 1000 := by rw [hN2]; have := List.count_le_length (a := x) (l := s.take k); rw [List.length_take] at this; omega
    have HN1 := Lib.hid hN1
    have HN2 := Lib.hid hN2
    have RX := Lib.hid hX
    have OO := Lib.hid hO
    have B := Lib.hid hb
    clear hX hO hb hN1 hN2
    by_cases hlt : k < l.length
    · have HLT := Lib.hid hlt
      have HLS := Lib.hid (show k < s.length by rw [HSL.out]; exact hlt)
      obtain ⟨ad, rfl, hadB, hcell⟩ := (HR.out.below B.out) (by omega)
      obtain ⟨hx1, hx2⟩ := hcell k hlt
      have HX1 := Lib.hid hx1
      have HX2 := Lib.hid hx2
      have hadW : ad.block < wr.heap.size := Nat.lt_of_lt_of_le hadB B.out.size
      have HAD := Lib.hid (show (ad.add (k * 2)).block < wr.heap.size ∧ ((ad.add (k * 2)).add 1).block < wr.heap.size by rw [block_add, block_add, block_add]; exact ⟨hadW, hadW⟩)
      obtain ⟨g, cap, hv, hGB, hRS⟩ := row_of_own OO.out rfl (by have := HLS.out; omega)
      obtain rfl : a3 = some ⟨g, 0, none⟩ := (Value.slice.inj hv).1
      obtain rfl : c3 = cap := (Value.slice.inj hv).2.2
      have RS := Lib.hid hRS
      have HGB := Lib.hid hGB
      have HKS := Lib.hid (show decide ((k : Int) < (s.length : Int)) = true from decide_eq_true (by have := HLS.out; omega))
      clear hcell hx1 hx2 hadB hadW hv hRS hGB OO
      obtain ⟨b1, hb1⟩ : ∃ b, b = decide (at_ l k = x) := ⟨_, rfl⟩
      obtain ⟨b2, hb2⟩ : ∃ b, b = decide (at_ s k = x) := ⟨_, rfl⟩
      have E1 := Lib.hid hb1.symm
      have E2 := Lib.hid hb2.symm
      have CN1 := Lib.hid (show (((l.take (k + 1)).count x : Nat) : Int) = (n1 : Int) + (if b1 = true then 1 else 0) by rw [count_next HLT.out, ← HN1.out, hb1]; by_cases e : at_ l k = x <;> simp [e])
      have CN2 := Lib.hid (show (((s.take (k + 1)).count x : Nat) : Int) = (n2 : Int) + (if b2 = true then 1 else 0) by rw [count_next HLS.out, ← HN2.out, hb2]; by_cases e : at_ s k = x <;> simp [e])
      clear hb1 hb2
      go_upto_region 8 with fail
      refine r_region (fun w' => Below wr.heap.size wr w') (by kernel_rfl) (by kernel_rfl) (Below.refl _ _).drew ?_
      refine r_move_is rfl (.tmp 0) (.slice (some ad) l.length c) rfl rfl ?_
      simp only [Act.put, List.setIfInBounds_toArray, List.set_cons_succ, List.set_cons_zero]
      refine r_move_is rfl (.tmp 8) (.int .i64 (k : Int)) rfl rfl ?_
      simp only [Act.put, List.setIfInBounds_toArray, List.set_cons_succ, List.set_cons_zero]
      refine r_val rfl (fun w' hw' => run_at_dueA (x := .tmp 25) (y := .tmp 26) (ad := ad) (i := k) rfl rfl rfl HLT.out w') ?_
      simp only [Act.put, List.setIfInBounds_toArray, List.set_cons_succ, List.set_cons_zero]
      refine r_val rfl (fun w' hw' => run_load_dueA (x := .tmp 27) (d := at_ l k) rfl rfl ((hw'.cell HAD.out.1).trans HX1.out) ((hw'.cell HAD.out.2).trans HX2.out)) ?_
      simp only [Act.put, List.setIfInBounds_toArray, List.set_cons_succ, List.set_cons_zero]
      refine r_val rfl (fun w' hw' => run_load_due (x := .tmp 3) (g := X) (i := 0) (d := x) rfl rfl (rowc (keep_row RX.out hw')).1 (rowc (keep_row RX.out hw')).2) ?_
      simp only [Act.put, List.setIfInBounds_toArray, List.set_cons_succ, List.set_cons_zero]
      refine r_val rfl (fun w' hw' => run_eql_due_is (x := .tmp 28) (y := .tmp 29) rfl rfl rfl b1 E1.out w') ?_
      simp only [Act.put, List.setIfInBounds_toArray, List.set_cons_succ, List.set_cons_zero]
      refine r_nil ?_
      intro w5 hw2
      have RX := Lib.hid (keep_row RX.out hw2)
      have RS := Lib.hid (RS.out.keep (hw2.block g RS.out.lt))
      have HX1 := Lib.hid ((hw2.cell HAD.out.1).trans HX1.out)
      have HX2 := Lib.hid ((hw2.cell HAD.out.2).trans HX2.out)
      have HAD := Lib.hid (show (ad.add (k * 2)).block < w5.heap.size ∧ ((ad.add (k * 2)).add 1).block < w5.heap.size from ⟨Nat.lt_of_lt_of_le HAD.out.1 hw2.size, Nat.lt_of_lt_of_le HAD.out.2 hw2.size⟩)
      have B := Lib.hid (B.out.trans (hw2.mono B.out.size))
      clear hw2
      go_upto_if 30 with fail
      go_cut [6, 30] (fun a _ wx => a = .int .i64 (((l.take (k + 1)).count x : Nat) : Int) ∧ wx = w5)
      case first =>
        cases b1
        · go_wp2_with fail
          go_meet
          exact ⟨by rw [CN1.out]; simp, rfl⟩
        · go_wp2_with fail
          go_meet
          exact ⟨by rw [CN1.out]; simp, rfl⟩
      case rest =>
      obtain ⟨rfl, rfl⟩ := hcut
      go_upto_region 10 with fail
      refine r_region (fun w' => Below wc.heap.size wc w') (by kernel_rfl) (by kernel_rfl) (Below.refl _ _).drew ?_
      refine r_move_is rfl (.tmp 8) (.int .i64 (k : Int)) rfl rfl ?_
      simp only [Act.put, List.setIfInBounds_toArray, List.set_cons_succ, List.set_cons_zero]
      refine r_move_is rfl (.tmp 5) (.slice (some ⟨g, 0, none⟩) s.length c3) rfl rfl ?_
      simp only [Act.put, List.setIfInBounds_toArray, List.set_cons_succ, List.set_cons_zero]
      refine r_val rfl (fun w' hw' => run_len_sl (x := .tmp 34) rfl rfl w') ?_
      simp only [Act.put, List.setIfInBounds_toArray, List.set_cons_succ, List.set_cons_zero]
      refine r_val rfl (fun w' hw' => run_lss_is (x := .tmp 33) (y := .tmp 35) rfl rfl rfl true HKS.out w') ?_
      simp only [Act.put, List.setIfInBounds_toArray, List.set_cons_succ, List.set_cons_zero]
      refine r_move_is rfl (.tmp 36) (.bool true) rfl rfl ?_
      simp only [Act.put, List.setIfInBounds_toArray, List.set_cons_succ, List.set_cons_zero]
      refine r_move_is rfl (.tmp 5) (.slice (some ⟨g, 0, none⟩) s.length c3) rfl rfl ?_
      simp only [Act.put, List.setIfInBounds_toArray, List.set_cons_succ, List.set_cons_zero]
      refine r_move_is rfl (.tmp 8) (.int .i64 (k : Int)) rfl rfl ?_
      simp only [Act.put, List.setIfInBounds_toArray, List.set_cons_succ, List.set_cons_zero]
      refine r_val rfl (fun w' hw' => run_at_due (x := .tmp 38) (y := .tmp 39) (g := g) (n := s.length) (c := c3) (i := k) rfl rfl rfl HLS.out w') ?_
      simp only [Act.put, List.setIfInBounds_toArray, List.set_cons_succ, List.set_cons_zero]
      refine r_val rfl (fun w' hw' => run_load_due (x := .tmp 40) (g := g) (i := k * 2) (d := at_ s k) rfl rfl ((RS.out.keep (hw'.block g RS.out.lt)).c1 HLS.out) ((RS.out.keep (hw'.block g RS.out.lt)).c2 HLS.out)) ?_
      simp only [Act.put, List.setIfInBounds_toArray, List.set_cons_succ, List.set_cons_zero]
      refine r_val rfl (fun w' hw' => run_load_due (x := .tmp 3) (g := X) (i := 0) (d := x) rfl rfl (rowc (keep_row RX.out hw')).1 (rowc (keep_row RX.out hw')).2) ?_
      simp only [Act.put, List.setIfInBounds_toArray, List.set_cons_succ, List.set_cons_zero]
      refine r_val rfl (fun w' hw' => run_eql_due_is (x := .tmp 41) (y := .tmp 42) rfl rfl rfl b2 E2.out w') ?_
      simp only [Act.put, List.setIfInBounds_toArray, List.set_cons_succ, List.set_cons_zero]
      refine r_val rfl (fun w' hw' => run_pick_is (c := .tmp 37) (a := .tmp 43) (b := .const (.bool false)) rfl (t := true) rfl (.bool b2) rfl w') ?_
      simp only [Act.put, List.setIfInBounds_toArray, List.set_cons_succ, List.set_cons_zero]
      refine r_nil ?_
      intro w6 hw2
      have RX := Lib.hid (keep_row RX.out hw2)
      have RS := Lib.hid (RS.out.keep (hw2.block g RS.out.lt))
      have HX1 := Lib.hid ((hw2.cell HAD.out.1).trans HX1.out)
      have HX2 := Lib.hid ((hw2.cell HAD.out.2).trans HX2.out)
      have HAD := Lib.hid (show (ad.add (k * 2)).block < w6.heap.size ∧ ((ad.add (k * 2)).add 1).block < w6.heap.size from ⟨Nat.lt_of_lt_of_le HAD.out.1 hw2.size, Nat.lt_of_lt_of_le HAD.out.2 hw2.size⟩)
      have B := Lib.hid (B.out.trans (hw2.mono B.out.size))
      clear hw2
      go_upto_if 44 with fail
      go_cut [7, 44] (fun a _ wx => a = .int .i64 (((s.take (k + 1)).count x : Nat) : Int) ∧ wx = w6)
      case first =>
        cases b2
        · go_wp2_with fail
          go_meet
          exact ⟨by rw [CN2.out]; simp, rfl⟩
        · go_wp2_with fail
          go_meet
          exact ⟨by rw [CN2.out]; simp, rfl⟩
      case rest =>
      obtain ⟨rfl, rfl⟩ := hcut
      go_upto_region 12 with fail
      go_cut [66] (fun r wx => r = .bool false ∧ Hid (Below wc.heap.size wc wx))
      case first =>
        by_cases h0 : k = 0
        · have K0 := Lib.hid (show decide ((0 : Int) < (k : Int)) = false from decide_eq_false (by omega))
          refine r_region (fun w' => Below wc.heap.size wc w') (by kernel_rfl) (by kernel_rfl) (Below.refl _ _).drew ?_
          refine r_move_is rfl (.tmp 8) (.int .i64 (k : Int)) rfl rfl ?_
          simp only [Act.put, List.setIfInBounds_toArray, List.set_cons_succ, List.set_cons_zero]
          refine r_val rfl (fun w' hw' => run_gtr_is (x := .tmp 47) (y := .const (.int .i64 0)) rfl rfl rfl false K0.out w') ?_
          simp only [Act.put, List.setIfInBounds_toArray, List.set_cons_succ, List.set_cons_zero]
          refine r_move_is rfl (.tmp 48) (.bool false) rfl rfl ?_
          simp only [Act.put, List.setIfInBounds_toArray, List.set_cons_succ, List.set_cons_zero]
          refine r_skip rfl ?_
          simp only [Act.put, List.setIfInBounds_toArray, List.set_cons_succ, List.set_cons_zero]
          refine r_skip rfl ?_
          simp only [Act.put, List.setIfInBounds_toArray, List.set_cons_succ, List.set_cons_zero]
          refine r_skip rfl ?_
          simp only [Act.put, List.setIfInBounds_toArray, List.set_cons_succ, List.set_cons_zero]
          refine r_skip rfl ?_
          simp only [Act.put, List.setIfInBounds_toArray, List.set_cons_succ, List.set_cons_zero]
          refine r_val rfl (fun w' hw' => run_pick_is (c := .tmp 49) (a := .tmp 53) (b := .const (.bool false)) rfl (t := false) rfl (.bool false) rfl w') ?_
          simp only [Act.put, List.setIfInBounds_toArray, List.set_cons_succ, List.set_cons_zero]
          refine r_move_is rfl (.tmp 54) (.bool false) rfl rfl ?_
          simp only [Act.put, List.setIfInBounds_toArray, List.set_cons_succ, List.set_cons_zero]
          refine r_skip rfl ?_
          simp only [Act.put, List.setIfInBounds_toArray, List.set_cons_succ, List.set_cons_zero]
          refine r_skip rfl ?_
          simp only [Act.put, List.setIfInBounds_toArray, List.set_cons_succ, List.set_cons_zero]
          refine r_skip rfl ?_
          simp only [Act.put, List.setIfInBounds_toArray, List.set_cons_succ, List.set_cons_zero]
          refine r_skip rfl ?_
          simp only [Act.put, List.setIfInBounds_toArray, List.set_cons_succ, List.set_cons_zero]
          refine r_skip rfl ?_
          simp only [Act.put, List.setIfInBounds_toArray, List.set_cons_succ, List.set_cons_zero]
          refine r_skip rfl ?_
          simp only [Act.put, List.setIfInBounds_toArray, List.set_cons_succ, List.set_cons_zero]
          refine r_skip rfl ?_
          simp only [Act.put, List.setIfInBounds_toArray, List.set_cons_succ, List.set_cons_zero]
          refine r_skip rfl ?_
          simp only [Act.put, List.setIfInBounds_toArray, List.set_cons_succ, List.set_cons_zero]
          refine r_skip rfl ?_
          simp only [Act.put, List.setIfInBounds_toArray, List.set_cons_succ, List.set_cons_zero]
          refine r_skip rfl ?_
          simp only [Act.put, List.setIfInBounds_toArray, List.set_cons_succ, List.set_cons_zero]
          refine r_val rfl (fun w' hw' => run_pick_is (c := .tmp 55) (a := .tmp 65) (b := .const (.bool false)) rfl (t := false) rfl (.bool false) rfl w') ?_
          simp only [Act.put, List.setIfInBounds_toArray, List.set_cons_succ, List.set_cons_zero]
          refine r_nil ?_
          intro w7 hw2
          go_wp2_with fail
          go_meet
          exact ⟨rfl, Lib.hid hw2⟩
        · have K0 := Lib.hid (show decide ((0 : Int) < (k : Int)) = true from decide_eq_true (by omega))
          obtain ⟨p, hp⟩ : ∃ p, p = k - 1 := ⟨_, rfl⟩
          have HP := Lib.hid (show (k : Int) - 1 = (p : Int) ∧ -9223372036854775808 ≤ (p : Int) ∧ (p : Int) ≤ 9223372036854775807 by omega)
          have HLP := Lib.hid (show p < s.length by have := HLS.out; omega)
          have HLE := Lib.hid (rising_at RI.out (show p < k by omega) HLS.out)
          clear h0 hlt hp
          refine r_region (fun w' => Below wc.heap.size wc w') (by kernel_rfl) (by kernel_rfl) (Below.refl _ _).drew ?_
          refine r_move_is rfl (.tmp 8) (.int .i64 (k : Int)) rfl rfl ?_
          simp only [Act.put, List.setIfInBounds_toArray, List.set_cons_succ, List.set_cons_zero]
          refine r_val rfl (fun w' hw' => run_gtr_is (x := .tmp 47) (y := .const (.int .i64 0)) rfl rfl rfl true K0.out w') ?_
          simp only [Act.put, List.setIfInBounds_toArray, List.set_cons_succ, List.set_cons_zero]
          refine r_move_is rfl (.tmp 48) (.bool true) rfl rfl ?_
          simp only [Act.put, List.setIfInBounds_toArray, List.set_cons_succ, List.set_cons_zero]
          refine r_move_is rfl (.tmp 8) (.int .i64 (k : Int)) rfl rfl ?_
          simp only [Act.put, List.setIfInBounds_toArray, List.set_cons_succ, List.set_cons_zero]
          refine r_move_is rfl (.tmp 5) (.slice (some ⟨g, 0, none⟩) s.length c3) rfl rfl ?_
          simp only [Act.put, List.setIfInBounds_toArray, List.set_cons_succ, List.set_cons_zero]
          refine r_val rfl (fun w' hw' => run_len_sl (x := .tmp 51) rfl rfl w') ?_
          simp only [Act.put, List.setIfInBounds_toArray, List.set_cons_succ, List.set_cons_zero]
          refine r_val rfl (fun w' hw' => run_lss_is (x := .tmp 50) (y := .tmp 52) rfl rfl rfl true HKS.out w') ?_
          simp only [Act.put, List.setIfInBounds_toArray, List.set_cons_succ, List.set_cons_zero]
          refine r_val rfl (fun w' hw' => run_pick_is (c := .tmp 49) (a := .tmp 53) (b := .const (.bool false)) rfl (t := true) rfl (.bool true) rfl w') ?_
          simp only [Act.put, List.setIfInBounds_toArray, List.set_cons_succ, List.set_cons_zero]
          refine r_move_is rfl (.tmp 54) (.bool true) rfl rfl ?_
          simp only [Act.put, List.setIfInBounds_toArray, List.set_cons_succ, List.set_cons_zero]
          refine r_move_is rfl (.tmp 5) (.slice (some ⟨g, 0, none⟩) s.length c3) rfl rfl ?_
          simp only [Act.put, List.setIfInBounds_toArray, List.set_cons_succ, List.set_cons_zero]
          refine r_move_is rfl (.tmp 8) (.int .i64 (k : Int)) rfl rfl ?_
          simp only [Act.put, List.setIfInBounds_toArray, List.set_cons_succ, List.set_cons_zero]
          refine r_val rfl (fun w' hw' => run_at_due (x := .tmp 56) (y := .tmp 57) (g := g) (n := s.length) (c := c3) (i := k) rfl rfl rfl HLS.out w') ?_
          simp only [Act.put, List.setIfInBounds_toArray, List.set_cons_succ, List.set_cons_zero]
          refine r_val rfl (fun w' hw' => run_load_due (x := .tmp 58) (g := g) (i := k * 2) (d := at_ s k) rfl rfl ((RS.out.keep (hw'.block g RS.out.lt)).c1 HLS.out) ((RS.out.keep (hw'.block g RS.out.lt)).c2 HLS.out)) ?_
          simp only [Act.put, List.setIfInBounds_toArray, List.set_cons_succ, List.set_cons_zero]
          refine r_move_is rfl (.tmp 5) (.slice (some ⟨g, 0, none⟩) s.length c3) rfl rfl ?_
          simp only [Act.put, List.setIfInBounds_toArray, List.set_cons_succ, List.set_cons_zero]
          refine r_move_is rfl (.tmp 8) (.int .i64 (k : Int)) rfl rfl ?_
          simp only [Act.put, List.setIfInBounds_toArray, List.set_cons_succ, List.set_cons_zero]
          refine r_val rfl (fun w' hw' => run_sub_is (x := .tmp 61) (y := .const (.int .i64 1)) rfl rfl rfl (p : Int) HP.out w') ?_
          simp only [Act.put, List.setIfInBounds_toArray, List.set_cons_succ, List.set_cons_zero]
          refine r_val rfl (fun w' hw' => run_at_due (x := .tmp 60) (y := .tmp 62) (g := g) (n := s.length) (c := c3) (i := p) rfl rfl rfl HLP.out w') ?_
          simp only [Act.put, List.setIfInBounds_toArray, List.set_cons_succ, List.set_cons_zero]
          refine r_val rfl (fun w' hw' => run_load_due (x := .tmp 63) (g := g) (i := p * 2) (d := at_ s p) rfl rfl ((RS.out.keep (hw'.block g RS.out.lt)).c1 HLP.out) ((RS.out.keep (hw'.block g RS.out.lt)).c2 HLP.out)) ?_
          simp only [Act.put, List.setIfInBounds_toArray, List.set_cons_succ, List.set_cons_zero]
          refine r_call rfl (args := #[dv (at_ s k), dv (at_ s p)]) (fun w' hw' => run_call2 (u := dv (at_ s k)) (v := dv (at_ s p)) rfl Try.call20 rfl rfl w') (fun w' hw' => by have := class_less (Nat.le_refl _) hw' (at_ s k) (at_ s p); rw [HLE.out] at this; exact this) ?_
          simp only [Act.put, List.setIfInBounds_toArray, List.set_cons_succ, List.set_cons_zero]
          refine r_val rfl (fun w' hw' => run_pick_is (c := .tmp 55) (a := .tmp 65) (b := .const (.bool false)) rfl (t := true) rfl (.bool false) rfl w') ?_
          simp only [Act.put, List.setIfInBounds_toArray, List.set_cons_succ, List.set_cons_zero]
          refine r_nil ?_
          intro w7 hw2
          go_wp2_with fail
          go_meet
          exact ⟨rfl, Lib.hid hw2⟩
      case rest =>
        obtain ⟨rfl, hw⟩ := hcut
        go_wp2_with fail
        go_roundw
        case rel => exact ⟨k + 1, rfl, rfl, by go_num, HLT.out, keep_row RX.out hw.out, own_of_row (RS.out.keep (hw.out.block g RS.out.lt)) HGB.out, B.out.trans (hw.out.mono B.out.size)⟩
        case measure => have := HLT.out; simp [intOf]; omega
    · have hkl : k = l.length := by omega
      have hnn : ((n1 : Int) == (n2 : Int)) = true := by
        have h1 := HN1.out
        have h2 := HN2.out
        rw [hkl, List.take_length] at h1
        rw [hkl, ← HSL.out, List.take_length] at h2
        rw [beq_iff_eq, h1, h2, PE.out.count_eq]
      have hle : ((s.length : Int) == (l.length : Int)) = true := by rw [beq_iff_eq, HSL.out]
      obtain ⟨s1, s2, _, _⟩ := at_of_row RX.out
      go_wp2_with fail
      have hlx := less_any x x wr
      rw [less_irrefl] at hlx
      unfold dv at hlx
      refine hlx.mono ?_
      rintro e w3 ⟨rfl, hb3⟩
      go_wp2
      go_ret
      exact ⟨rfl, B.out.trans (hb3.mono B.out.size)⟩

set_option maxRecDepth 100000 in
set_option maxHeartbeats 1000000 in
theorem sorts_long (w : World) (A : Option Addr) (c : Nat) (l : List D) (x : D) (hm : l.length ≤ maxLen) (h : 200 < l.length) :
    Calls Try.prog 6 #[.slice A l.length c, dv x] w fun e w' => e = .returned (.bool true) ∧ Below w.heap.size w w' := by
  unfold maxLen at hm
  unfold dv
  have g1 : decide ((200 : Int) < (l.length : Int)) = true := decide_eq_true (by omega)
  go_enter Try.func6, Try.ntmps6
  go_wp2_with fail
  refine (awake_any _).mono ?_
  rintro e w1 ⟨rfl, hb1⟩
  go_wp2_with fail
  refine (awake_any _).mono ?_
  rintro e w2 ⟨rfl, hb2⟩
  go_wp2
  go_ret
  exact ⟨rfl, ((Below.refl w.heap.size w).alloc (Nat.le_refl _) _).trans ((hb1.trans (hb2.mono hb1.size)).mono (by simp))⟩
theorem walk_heapSorts (w : World) (A : Option Addr) (c : Nat) (l : List D) (hm : l.length ≤ maxLen) (hr : DReads w w.heap.size A l) (x : D) :
    Calls Try.prog 6 #[.slice A l.length c, dv x] w fun e w' => e = .returned (.bool true) ∧ Below w.heap.size w w' := by
  by_cases h : 200 < l.length
  · exact sorts_long w A c l x hm h
  · exact sorts_run w A c l x hr (by omega)

set_option maxRecDepth 100000 in
theorem heapSorts_lifted (os : Os) (started : os.Started) (H : Type) (enc : TypeId × Value → H) :
    ReturnsInHanded {} Try.checked os 6 .any (Rows.heapSortsSpec.pre6 enc Try.prog Try.f6 Rows.heapSortsRow.domain false) (Rows.heapSortsSpec.post enc Try.prog Try.f6 false true false false) := by
  refine returnsInHanded_of_change (C := Try.checked) own started (by kernel_rfl) Try.func6
    (ChangeSpec.witness6 (enc := enc) (C := Try.checked) false ⟨#[], #[.slice none 0 0, .agg #[.int .i64 0, .int .i64 0]], []⟩ 8 (by kernel_rfl) (by kernel_rfl) (by kernel_rfl) (by kernel_rfl)) ?_
  intro W base args ds gs before hval0 hW hcnd hsz
  have hval : ∀ (j : Nat) t v, Try.f6.params[j]? = some t → args[j]? = some v → Value.okWide Try.prog W .any base t v := hval0
  have hW' := hW
  obtain ⟨p, q, hA0, hV, rfl, hfz, hnd⟩ := hW
  have hA : DataW.TrodAll enc Try.prog W 0 (fun _ => true) true Try.f6.params.toList args.toList ds p := hA0
  rw [Try.params6] at hA hval
  obtain ⟨v0, vs0, d0, ds0, p0, q0, hargs, rfl, rfl, h0, r0⟩ := trodAll_cons hA
  obtain ⟨v1, vs1, d1, ds1, p1, q1, rfl, rfl, rfl, h1, r1⟩ := trodAll_cons r0
  obtain ⟨rfl, rfl, rfl⟩ := trodAll_nil r1
  obtain rfl : args = #[v0, v1] := by cases args; simp_all
  obtain ⟨rfl, rfl⟩ := trodVars_none hV
  have k0 := h0
  have lt0 : ∀ x ∈ p0, x.block < W.heap.size := by obtain ⟨m, hm⟩ := k0; exact DataW.trod_lt m _ _ _ hm
  have k1 := h1
  have lt1 : ∀ x ∈ p1, x.block < W.heap.size := by obtain ⟨m, hm⟩ := k1; exact DataW.trod_lt m _ _ _ hm
  obtain ⟨A0, c0, l0, rfl, hm0, hr0⟩ := open_dues (hval 0 39 v0 rfl rfl) h0
  obtain ⟨x1, rfl⟩ := open_due (hval 1 30 v1 rfl rfl) h1
  clear hA0 hval0
  refine (walk_heapSorts W A0 c0 l0 hm0 hr0 x1).mono fun e W' ⟨he, bel⟩ => ?_
  subst he
  exact ⟨_, rfl, _, _, _, [], _, [], hW', trodAll_mk1 (shut_bool Try.underlying4 _), (trodAll_cons_mk (Below.trod laidOut (by kernel_rfl) (of_decide_eq_true (by kernel_rfl)) k0 bel lt0) (trodAll_cons_mk (Below.trod laidOut (by kernel_rfl) (of_decide_eq_true (by kernel_rfl)) k1 bel lt1) trodAll_mk0)), rfl, bel.frame _, fun h => by cases h⟩

theorem heapSorts_holds : Rows.HeapSortsSaid :=
  OpenClaim.holds_of_wide 6 Try.f6 rfl rfl rfl rfl rfl rfl rfl ⟨rfl, rfl, rfl, rfl, rfl⟩ rfl rfl rfl rfl rfl (by kernel_rfl) Try.func6 (by kernel_rfl)
    (of_decide_eq_true (by kernel_rfl)) (by unfold Func.isWrapper; first | (rw [if_pos (by decide +kernel)]; kernel_rfl) | (rw [if_neg (by decide +kernel)]; exact ⟨rfl, rfl⟩))
    (fun os started H enc _ => heapSorts_lifted os started H enc)

#print axioms heapSorts_holds
end Go.Proofs.Ytcmbmocineegoaa
