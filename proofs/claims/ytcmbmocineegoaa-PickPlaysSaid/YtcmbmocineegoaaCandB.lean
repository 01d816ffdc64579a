/-
  What pick.Best, the law's own conversion and its example answer.
  Conditions: none.
-/
import Derived.Test.YtcmbmocineegoaaCandO
namespace Go.Proofs.Ytcmbmocineegoaa
open Go.ChangeShapes Go.WideShapes Go.ChangeAt Go.RowKit
theorem own_ints {w : World} {B n : Nat} {A : Option Addr} {c : Nat} {s : List D} (h : w.ownsRow B 3 1 (.slice A n c) n (ids s)) (hn : n = s.length) {j : Nat} (hj : j < n) : ∃ ad, A = some ad ∧ ad.block < w.heap.size ∧ ∀ j, j < s.length → w.cell? (ad.add (j * 1)) = some (.int .i64 (at_ s j).2) := by
  subst hn
  rcases h.2 with ⟨_, h2⟩ | ⟨g, cap, cur, hv, hg, hh, hc, hm, hs, hcs⟩
  · omega
  · cases hv
    refine ⟨_, rfl, row_lt hh, fun j hj => ?_⟩
    have a := ids_at hj
    rw [← hcs, List.getElem?_take, if_pos (by omega), Array.getElem?_toList] at a
    rw [addr_add, Nat.mul_one, cell_of_row w g _ cur 3 (0, 0) hh]
    exact a

set_option maxRecDepth 100000 in
set_option maxHeartbeats 1000000 in
theorem best_any (w : World) (A : Option Addr) (c : Nat) (l : List C3) (hr : CReads w w.heap.size A l) (hn : l.length ≤ 200) :
    Calls Try.prog 23 #[.slice A l.length c] w fun e w' => ∃ (s : List D), e = .returned (.tuple #[.int .i64 (at_ s 0).2, .bool (decide (0 < s.length))]) ∧ s.Perm (keys l) ∧ Rising s ∧ Below w.heap.size w w' := by
  have HR := Lib.hid hr
  clear hr
  go_enter Try.func23, Try.ntmps23
  go_wp2_with fail
  refine (order_any w A c l HR.out hn).mono ?_
  rintro e w1 ⟨v, s, rfl, hown, hp, hri, hb⟩
  have O1 := Lib.hid hown
  have PE := Lib.hid hp
  have RI := Lib.hid hri
  have BB := Lib.hid hb
  obtain ⟨As, cs, rfl⟩ := own_slice hown
  clear hown hp hri hb
  rcases Nat.eq_zero_or_pos s.length with h0 | h0
  · have hs : s = [] := List.eq_nil_of_length_eq_zero h0
    subst hs
    go_wp2_with fail
    go_ret2
    exact ⟨[], rfl, PE.out, RI.out, BB.out⟩
  · obtain ⟨ad, rfl, _, hc⟩ := own_ints O1.out rfl h0
    have HC := Lib.hid (hc 0 h0)
    have HH := Lib.hid h0
    have hne : ((s.length : Int) == 0) = false := by rw [beq_eq_false_iff_ne]; omega
    have HD := Lib.hid (show true = decide (0 < s.length) from (decide_eq_true h0).symm)
    clear hc
    go_wp2_with (first | refine l_val rfl (run_at_T Try.underlying49 size3 (x := .tmp 10) (y := .const (.int .i64 0)) (ad := ad) (i := 0) rfl rfl rfl HH.out _) ?_ | refine l_val rfl (run_load_int (x := .tmp 11) rfl Try.underlying3 rfl HC.out) ?_)
    go_ret2
    exact ⟨s, by rw [← HD.out]; rfl, PE.out, RI.out, BB.out⟩

section
variable {ρ : Operand → Value} {o : Oper}
theorem run_build55 {x0 x1 x2 : Operand} (ho : o.op = .build 55 #[(0, x0), (1, x1), (2, x2)]) {a b c : Int} (h0 : ρ x0 = .int .i64 a) (h1 : ρ x1 = .int .i64 b) (h2 : ρ x2 = .int .i64 c) (w : World) : (execOp ρ o).run Try.prog w = .ok (.value (.agg #[.int .i64 a, .int .i64 b, .int .i64 c])) w := by
  unfold execOp
  rw [ho]
  simp [go_sem, h0, h1, h2]
theorem run_rowT {x : Operand} (ho : o.op = .buildSlice 47 1 #[(0, x)]) {d : C3} (hx : ρ x = tv d) (w : World) : (execOp ρ o).run Try.prog w = .ok (.value (.slice (some ⟨w.heap.size, 0, none⟩) 1 1)) (w.alloc (.cells #[.int .i64 d.1, .int .i64 d.2.1, .int .i64 d.2.2] 55)) := by
  unfold execOp
  rw [ho]
  simp [go_sem, hx, tv]
end

set_option maxRecDepth 100000 in
set_option maxHeartbeats 1000000 in
theorem of_any (w : World) (A : Option Addr) (c : Nat) (l : List C3) (hr : CReads w w.heap.size A l) (hn : l.length ≤ 200) :
    Calls Try.prog 24 #[.slice A l.length c] w fun e w' => ∃ (v : Value), e = .returned v ∧ w'.ownsRow w.heap.size 55 3 v l.length (tcells l) ∧ Below w.heap.size w w' := by
  obtain ⟨i0, hi0, hz0, hz1, hz2⟩ := info_parts info55
  have HR := Lib.hid hr
  clear hr
  go_enter Try.func24, Try.ntmps24
  go_wp2_with fail
  go_loopw [3, 4] (fun v i wr => ∃ k : Nat, i = .int .i64 k ∧ k ≤ l.length ∧ wr.ownsRow w.heap.size 55 3 v k (tcells (l.take k)) ∧ Below w.heap.size w wr) (fun _ i _ => l.length - (intOf i).toNat)
  case atStart => exact ⟨0, rfl, by omega, by simpa [tcells] using World.ownsRow_nil _ _ _ _, Below.refl _ _⟩
  case round =>
    obtain ⟨k, rfl, hk, hO, hb⟩ := hrel
    have OO := Lib.hid hO
    have BB := Lib.hid hb
    clear hO hb
    by_cases hlt : k < l.length
    · have HLT := Lib.hid hlt
      obtain ⟨ad, rfl, _, _⟩ := HR.out (by omega)
      obtain ⟨w0, hw0⟩ : ∃ u, u = wr.drew := ⟨_, rfl⟩
      have HW0 := Lib.hid hw0.symm
      have hb0 : Below wr.heap.size wr w0 := by rw [hw0]; exact (Below.refl _ _).drew
      have B0 := Lib.hid (BB.out.trans (hb0.mono BB.out.size))
      have O0 := Lib.hid (own_row OO.out (fun q hq => hb0.block q (own_lt OO.out hq).1))
      obtain ⟨SB, hSB⟩ : ∃ n, n = w.heap.size := ⟨_, rfl⟩
      have HSB := Lib.hid hSB
      have HSZ := Lib.hid (show SB ≤ w0.heap.size by rw [hSB]; exact B0.out.size)
      have HDQ := Lib.hid (show ∀ q, u3.ownBlock = some q → SB ≤ q from fun q hq => by rw [hSB]; exact (own_lt OO.out hq).2)
      have HCL := Lib.hid (show ∀ w', Below SB w0 w' → w'.cell? (ad.add (k * 3)) = some (.int .i64 (at3 l k).1) ∧ w'.cell? ((ad.add (k * 3)).add 1) = some (.int .i64 (at3 l k).2.1) ∧ w'.cell? ((ad.add (k * 3)).add 2) = some (.int .i64 (at3 l k).2.2) from fun w' hb => creads_cell HR.out (B0.out.trans (hSB ▸ hb)) hlt)
      obtain ⟨U2, hU2⟩ : ∃ u, u = w0.alloc (.cells #[.int .i64 (at3 l k).1, .int .i64 (at3 l k).2.1, .int .i64 (at3 l k).2.2] 55) := ⟨_, rfl⟩
      obtain ⟨G, hG⟩ : ∃ u, u = w0.heap.size := ⟨_, rfl⟩
      have HU2 := Lib.hid hU2
      have HG := Lib.hid hG
      have hb2 : Below w0.heap.size w0 U2 := by rw [hU2]; exact (Below.refl _ _).alloc (Nat.le_refl _) _
      have X2 := Lib.hid (show U2.heap[G]? = some (.cells #[.int .i64 (at3 l k).1, .int .i64 (at3 l k).2.1, .int .i64 (at3 l k).2.2] 55 (0, 0)) by rw [hU2, hG]; exact heap_alloc_new w0 _)
      have D2 := Lib.hid (own_row O0.out (fun q hq => hb2.block q (own_lt O0.out hq).1))
      have BU := Lib.hid (B0.out.trans (hb2.mono B0.out.size))
      have CU := Lib.hid (show Below SB w0 U2 from hb2.mono HSZ.out)
      clear hw0 hb0 hSB hU2 hG hb2 hlt
      go_upto_region 5 with fail
      refine g_region (fun w' => Below SB w0 w') 20 rfl (by kernel_rfl) ?_
      rw [HW0.out]
      refine g_take 0 rfl (some 11) rfl (by kernel_rfl) (by kernel_rfl) (by kernel_rfl) (fun _ _ _ h => h) rfl (fun w' hw' => run_move_is (.tmp 3) u3 rfl rfl w') (Below.refl _ _) ?_
      simp only [Act.put, List.setIfInBounds_toArray, List.set_cons_succ, List.set_cons_zero]
      refine g_take 1 rfl (some 12) rfl (by kernel_rfl) (by kernel_rfl) (by kernel_rfl) (fun _ _ _ h => h) rfl (fun w' hw' => run_move_is (.tmp 0) (.slice (some ad) l.length c) rfl rfl w') (Below.refl _ _) ?_
      simp only [Act.put, List.setIfInBounds_toArray, List.set_cons_succ, List.set_cons_zero]
      refine g_take 2 rfl (some 13) rfl (by kernel_rfl) (by kernel_rfl) (by kernel_rfl) (fun _ _ _ h => h) rfl (fun w' hw' => run_move_is (.tmp 4) (.int .i64 (k : Int)) rfl rfl w') (Below.refl _ _) ?_
      simp only [Act.put, List.setIfInBounds_toArray, List.set_cons_succ, List.set_cons_zero]
      refine g_take 3 rfl (some 14) rfl (by kernel_rfl) (by kernel_rfl) (by kernel_rfl) (fun _ _ _ h => h) rfl (fun w' hw' => run_at_T Try.underlying44 size53 (x := .tmp 12) (y := .tmp 13) (i := k) rfl rfl rfl HLT.out w') (Below.refl _ _) ?_
      simp only [Act.put, List.setIfInBounds_toArray, List.set_cons_succ, List.set_cons_zero]
      refine g_take 4 rfl (some 15) rfl (by kernel_rfl) (by kernel_rfl) (by kernel_rfl) (fun _ _ _ h => h) rfl (fun w' hw' => run_fld53_0 (x := .tmp 14) rfl rfl w') (Below.refl _ _) ?_
      simp only [Act.put, List.setIfInBounds_toArray, List.set_cons_succ, List.set_cons_zero]
      refine g_take 5 rfl (some 16) rfl (by kernel_rfl) (by kernel_rfl) (by kernel_rfl) (fun _ _ _ h => h) rfl (fun w' hw' => run_load_int (x := .tmp 15) rfl Try.underlying3 rfl (HCL.out w' hw').1) (Below.refl _ _) ?_
      simp only [Act.put, List.setIfInBounds_toArray, List.set_cons_succ, List.set_cons_zero]
      refine g_take 6 rfl (some 17) rfl (by kernel_rfl) (by kernel_rfl) (by kernel_rfl) (fun _ _ _ h => h) rfl (fun w' hw' => run_move_is (.tmp 0) (.slice (some ad) l.length c) rfl rfl w') (Below.refl _ _) ?_
      simp only [Act.put, List.setIfInBounds_toArray, List.set_cons_succ, List.set_cons_zero]
      refine g_take 7 rfl (some 18) rfl (by kernel_rfl) (by kernel_rfl) (by kernel_rfl) (fun _ _ _ h => h) rfl (fun w' hw' => run_move_is (.tmp 4) (.int .i64 (k : Int)) rfl rfl w') (Below.refl _ _) ?_
      simp only [Act.put, List.setIfInBounds_toArray, List.set_cons_succ, List.set_cons_zero]
      refine g_take 8 rfl (some 19) rfl (by kernel_rfl) (by kernel_rfl) (by kernel_rfl) (fun _ _ _ h => h) rfl (fun w' hw' => run_at_T Try.underlying44 size53 (x := .tmp 17) (y := .tmp 18) (i := k) rfl rfl rfl HLT.out w') (Below.refl _ _) ?_
      simp only [Act.put, List.setIfInBounds_toArray, List.set_cons_succ, List.set_cons_zero]
      refine g_take 9 rfl (some 20) rfl (by kernel_rfl) (by kernel_rfl) (by kernel_rfl) (fun _ _ _ h => h) rfl (fun w' hw' => run_fld53_1 (x := .tmp 19) rfl rfl w') (Below.refl _ _) ?_
      simp only [Act.put, List.setIfInBounds_toArray, List.set_cons_succ, List.set_cons_zero]
      refine g_take 10 rfl (some 21) rfl (by kernel_rfl) (by kernel_rfl) (by kernel_rfl) (fun _ _ _ h => h) rfl (fun w' hw' => run_load_int (x := .tmp 20) rfl Try.underlying3 rfl (HCL.out w' hw').2.1) (Below.refl _ _) ?_
      simp only [Act.put, List.setIfInBounds_toArray, List.set_cons_succ, List.set_cons_zero]
      refine g_take 11 rfl (some 22) rfl (by kernel_rfl) (by kernel_rfl) (by kernel_rfl) (fun _ _ _ h => h) rfl (fun w' hw' => run_move_is (.tmp 0) (.slice (some ad) l.length c) rfl rfl w') (Below.refl _ _) ?_
      simp only [Act.put, List.setIfInBounds_toArray, List.set_cons_succ, List.set_cons_zero]
      refine g_take 12 rfl (some 23) rfl (by kernel_rfl) (by kernel_rfl) (by kernel_rfl) (fun _ _ _ h => h) rfl (fun w' hw' => run_move_is (.tmp 4) (.int .i64 (k : Int)) rfl rfl w') (Below.refl _ _) ?_
      simp only [Act.put, List.setIfInBounds_toArray, List.set_cons_succ, List.set_cons_zero]
      refine g_take 13 rfl (some 24) rfl (by kernel_rfl) (by kernel_rfl) (by kernel_rfl) (fun _ _ _ h => h) rfl (fun w' hw' => run_at_T Try.underlying44 size53 (x := .tmp 22) (y := .tmp 23) (i := k) rfl rfl rfl HLT.out w') (Below.refl _ _) ?_
      simp only [Act.put, List.setIfInBounds_toArray, List.set_cons_succ, List.set_cons_zero]
      refine g_take 14 rfl (some 25) rfl (by kernel_rfl) (by kernel_rfl) (by kernel_rfl) (fun _ _ _ h => h) rfl (fun w' hw' => run_fld53_2 (x := .tmp 24) rfl rfl w') (Below.refl _ _) ?_
      simp only [Act.put, List.setIfInBounds_toArray, List.set_cons_succ, List.set_cons_zero]
      refine g_take 15 rfl (some 26) rfl (by kernel_rfl) (by kernel_rfl) (by kernel_rfl) (fun _ _ _ h => h) rfl (fun w' hw' => run_load_int (x := .tmp 25) rfl Try.underlying3 rfl (HCL.out w' hw').2.2) (Below.refl _ _) ?_
      simp only [Act.put, List.setIfInBounds_toArray, List.set_cons_succ, List.set_cons_zero]
      refine g_take 16 rfl (some 27) rfl (by kernel_rfl) (by kernel_rfl) (by kernel_rfl) (fun _ _ _ h => h) rfl (fun w' hw' => run_build55 rfl (x0 := .tmp 16) (x1 := .tmp 21) (x2 := .tmp 26) rfl rfl rfl w') (Below.refl _ _) ?_
      simp only [Act.put, List.setIfInBounds_toArray, List.set_cons_succ, List.set_cons_zero]
      refine g_one 17 (by kernel_rfl) ?_
      refine g_val rfl (some 28) rfl rfl (run_rowT (d := at3 l k) rfl rfl _) ((Below.refl _ _).alloc HSZ.out _) ?_
      simp only [Act.put, List.setIfInBounds_toArray, List.set_cons_succ, List.set_cons_zero]
      rw [← HU2.out, ← HG.out]
      refine g_one 18 (by kernel_rfl) ?_
      refine g_append rfl (some 29) rfl rfl (.tmp 11) (.tmp 28) _ rfl w.heap.size 55 i0 _ 3 24 Try.underlying47 hi0 hz0 hz1 hz2 rfl (by omega) u3 k (tcells (l.take k)) rfl D2.out _ (some ⟨G, 0, none⟩) 1 1 [.int .i64 (at3 l k).1, .int .i64 (at3 l k).2.1, .int .i64 (at3 l k).2.2] rfl (reads_news X2.out rfl) (by simp [Value.oneCell']) (by unfold maxLen; omega) (by omega) BU.out.size ?_
      intro v5 w5 hown5 hgr5 hat5
      have hc5 : Below SB w0 w5 := CU.out.grown hgr5 (Nat.le_trans HSZ.out CU.out.size) (fun q hq => by have := HDQ.out q hq; omega)
      refine ⟨hc5, ?_⟩
      simp only [Act.put, List.setIfInBounds_toArray, List.set_cons_succ, List.set_cons_zero]
      refine g_take 19 rfl (some 3) rfl (by kernel_rfl) (by kernel_rfl) (by kernel_rfl) (fun _ _ _ h => h) rfl (fun w' hw' => run_assign_is (.tmp 29) v5 rfl rfl w') hc5 ?_
      simp only [Act.put, List.setIfInBounds_toArray, List.set_cons_succ, List.set_cons_zero]
      refine g_done (by kernel_rfl) ?_
      have NX := Lib.hid (show w5.ownsRow w.heap.size 55 3 v5 (k + 1) (tcells (l.take (k + 1))) by
        have e : l.take (k + 1) = l.take k ++ [at3 l k] := by rw [List.take_add_one, at3_some HLT.out]; rfl
        rw [e, tcells_append]
        exact hown5)
      have NB := Lib.hid (B0.out.trans (HSB.out ▸ hc5))
      clear hown5 hgr5 hat5 hc5
      go_wp2_with fail
      go_roundw
      case rel => exact ⟨k + 1, by go_num, HLT.out, NX.out, NB.out⟩
      case measure => have := HLT.out; simp [intOf]; omega
    · have hkl : k = l.length := by omega
      subst hkl
      have OE := Lib.hid (show wr.ownsRow w.heap.size 55 3 u3 l.length (tcells l) by have := OO.out; rw [List.take_length] at this; exact this)
      clear OO
      go_wp2_with fail
      go_ret
      exact ⟨_, rfl, OE.out, BB.out⟩

set_option maxRecDepth 100000 in
set_option maxHeartbeats 1000000 in
theorem awake22_any (w : World) : Calls Try.prog 22 #[] w fun e w' => e = .returned (.bool true) ∧ Below w.heap.size w w' := by
  obtain ⟨U, hU⟩ : ∃ U, U = w.alloc (.cells #[.int .i64 3, .int .i64 7, .int .i64 9, .int .i64 1, .int .i64 7, .int .i64 8, .int .i64 2, .int .i64 5, .int .i64 4] 55) := ⟨_, rfl⟩
  have hb1 : Below w.heap.size w U := by rw [hU]; exact (Below.refl _ _).alloc (Nat.le_refl _) _
  have hO : U.ownsRow w.heap.size 55 3 (.slice (some ⟨w.heap.size, 0, none⟩) 3 3) 3 (tcells [(3, 7, 9), (1, 7, 8), (2, 5, 4)]) := by
    rw [hU]
    exact World.ownsRow_lit (e := 55) (size := 3) (base := w.heap.size) w #[.int .i64 3, .int .i64 7, .int .i64 9, .int .i64 1, .int .i64 7, .int .i64 8, .int .i64 2, .int .i64 5, .int .i64 4] 3 (Nat.le_refl _) (by unfold maxLen; omega) rfl
  have HB := Lib.hid (best_any U _ 3 [(3, 7, 9), (1, 7, 8), (2, 5, 4)] (own_creads_is hO rfl) (by simp))
  have B1 := Lib.hid hb1
  have HU := Lib.hid hU
  clear hO hb1 hU
  go_enter Try.func22, Try.ntmps22
  go_wp2_with fail
  rw [← HU.out]
  refine HB.out.mono ?_
  rintro e w1 ⟨s, rfl, hp, hri, hb⟩
  have hs : s = [(7, 1), (7, 3)] := by
    refine rising_unique hri (by unfold Rising; simp [less]) (hp.trans ?_)
    have e : keys [(3, 7, 9), (1, 7, 8), (2, 5, 4)] = [((7, 3) : D), (7, 1)] := by decide
    rw [e]
    exact List.Perm.swap _ _ _
  subst hs
  have BB := Lib.hid (B1.out.trans (hb.mono B1.out.size))
  have h1 : (at_ [((7, 1) : D), (7, 3)] 0).2 = 1 := rfl
  have h2 : decide (0 < [((7, 1) : D), (7, 3)].length) = true := rfl
  rw [h1, h2]
  clear hp hri hb h1 h2
  go_wp2
  go_ret
  exact ⟨rfl, BB.out⟩
end Go.Proofs.Ytcmbmocineegoaa
