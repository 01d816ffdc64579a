/-
  What the document's Best picks: one that is not out, who can, of the least pair.
  Conditions: none.
-/
import Derived.Test.YtcmbmocineegoaaCandP
namespace Go.Proofs.Ytcmbmocineegoaa
open Go.ChangeShapes Go.WideShapes Go.ChangeAt Go.RowKit

def elig (l : List C3) (outs : List Bool) (j : Nat) : Bool := !(outs.getD j false) && canC (at3 l j)
def BestTo (l : List C3) (outs : List Bool) (k : Nat) (b : Int) : Prop := (b = -1 ∧ ∀ j, j < k → elig l outs j = false) ∨ ∃ q : Nat, q < k ∧ b = (q : Int) ∧ elig l outs q = true ∧ ∀ j, j < k → elig l outs j = true → less (key (at3 l j)) (key (at3 l q)) = false
theorem BestTo.no {l : List C3} {outs : List Bool} {k : Nat} {b : Int} (h : BestTo l outs k b) (he : elig l outs k = false) : BestTo l outs (k + 1) b := by
  rcases h with ⟨hb, ha⟩ | ⟨q, hq, hb, heq, ha⟩
  · refine .inl ⟨hb, fun j hj => ?_⟩
    by_cases e : j = k
    · rw [e]; exact he
    · exact ha j (by omega)
  · refine .inr ⟨q, by omega, hb, heq, fun j hj hej => ?_⟩
    by_cases e : j = k
    · rw [e, he] at hej; cases hej
    · exact ha j (by omega) hej
theorem BestTo.first {l : List C3} {outs : List Bool} {k : Nat} (h : BestTo l outs k (-1)) (he : elig l outs k = true) : BestTo l outs (k + 1) (k : Int) := by
  rcases h with ⟨_, ha⟩ | ⟨q, hq, hb, _⟩
  · refine .inr ⟨k, by omega, rfl, he, fun j hj hej => ?_⟩
    by_cases e : j = k
    · rw [e]; exact less_irrefl _
    · rw [ha j (by omega)] at hej; cases hej
  · omega
theorem BestTo.next {l : List C3} {outs : List Bool} {k b : Nat} (h : BestTo l outs k (b : Int)) (he : elig l outs k = true) : (less (key (at3 l k)) (key (at3 l b)) = true → BestTo l outs (k + 1) (k : Int)) ∧ (less (key (at3 l k)) (key (at3 l b)) = false → BestTo l outs (k + 1) (b : Int)) := by
  rcases h with ⟨h, _⟩ | ⟨q, hq, hb, heq, ha⟩
  · omega
  · have e : q = b := by omega
    subst e
    refine ⟨fun hl => .inr ⟨k, by omega, rfl, he, fun j hj hej => ?_⟩, fun hl => .inr ⟨q, by omega, rfl, heq, fun j hj hej => ?_⟩⟩
    · by_cases e : j = k
      · rw [e]; exact less_irrefl _
      · exact le_trans' (less_asymm hl) (ha j (by omega) hej)
    · by_cases e : j = k
      · rw [e]; exact hl
      · exact ha j (by omega) hej
theorem tri_cell {W w : World} {g : Nat} {t : TypeId} {x : C3} (h : W.heap[g]? = some (.cells #[.int .i64 x.1, .int .i64 x.2.1, .int .i64 x.2.2] t (0, 0))) (hb : Below W.heap.size W w) : w.cell? ⟨g, 0, none⟩ = some (.int .i64 x.1) ∧ w.cell? ((⟨g, 0, none⟩ : Addr).add 1) = some (.int .i64 x.2.1) ∧ w.cell? ((⟨g, 0, none⟩ : Addr).add 2) = some (.int .i64 x.2.2) := by
  have h2 := (hb.block g (row_lt h)).trans h
  rw [addr_add, addr_add]
  exact ⟨cell_of_row w g 0 _ t (0, 0) h2, cell_of_row w g 1 _ t (0, 0) h2, cell_of_row w g 2 _ t (0, 0) h2⟩

set_option maxRecDepth 100000 in
set_option maxHeartbeats 2000000 in
theorem refbest_any (w : World) (A : Option Addr) (c : Nat) (l : List C3) (hr : CReads w w.heap.size A l) (Ao : Option Addr) (co n : Nat) (outs : List Bool) (hro : BReads w w.heap.size Ao outs) (hlo : outs.length = l.length) (hno : n = l.length) (hn : l.length ≤ 60) :
    Calls Try.prog 26 #[.slice A l.length c, .slice Ao n co] w fun e w' => ∃ b : Int, e = .returned (.int .i64 b) ∧ BestTo l outs l.length b ∧ Below w.heap.size w w' := by
  have HR := Lib.hid hr
  have HRO := Lib.hid hro
  have HLO := Lib.hid hlo
  have HNO := Lib.hid hno
  clear hr hro hlo hno
  go_enter Try.func26, Try.ntmps26
  go_wp2_with fail
  go_loopw [5, 6] (fun b i wr => ∃ (k : Nat) (bi : Int), i = .int .i64 k ∧ b = .int .i64 bi ∧ k ≤ l.length ∧ BestTo l outs k bi ∧ Below w.heap.size w wr) (fun _ i _ => l.length - (intOf i).toNat)
  case atStart => exact ⟨0, -1, rfl, rfl, by omega, .inl ⟨rfl, fun j hj => by omega⟩, Below.refl _ _⟩
  case round =>
    obtain ⟨k, bi, rfl, rfl, hk, hL, hb⟩ := hrel
    have B := Lib.hid hb
    have HL := Lib.hid hL
    clear hb hL
    by_cases hlt : k < l.length
    · have HLT := Lib.hid hlt
      obtain ⟨ad, rfl, hadB, hcell⟩ := (HR.out.below B.out) (by omega)
      have HX := Lib.hid (hcell k hlt)
      obtain ⟨ado, rfl, hadO, hco⟩ := (HRO.out.below B.out) (by have := HLO.out; omega)
      have HLTO := Lib.hid (show k < n by rw [HNO.out]; exact hlt)
      obtain ⟨o, ho⟩ : ∃ o, o = outs.getD k false := ⟨_, rfl⟩
      have HCO := Lib.hid (show wr.cell? (ado.add (k * 1)) = some (.bool o) by rw [ho, Nat.mul_one]; exact hco k (by rw [HLO.out]; exact hlt))
      obtain ⟨w5, hw5⟩ : ∃ u, u = wr.alloc (.cells #[.int .i64 (at3 l k).1, .int .i64 (at3 l k).2.1, .int .i64 (at3 l k).2.2] 53) := ⟨_, rfl⟩
      obtain ⟨G, hG⟩ : ∃ u, u = wr.heap.size := ⟨_, rfl⟩
      have X5 := Lib.hid (show w5.heap[G]? = some (.cells #[.int .i64 (at3 l k).1, .int .i64 (at3 l k).2.1, .int .i64 (at3 l k).2.2] 53 (0, 0)) by rw [hw5, hG]; exact heap_alloc_new wr _)
      have hb5 : Below wr.heap.size wr w5 := by rw [hw5]; exact (Below.refl _ _).alloc (Nat.le_refl _) _
      have HCO5 := Lib.hid ((hb5.cell (by rw [block_add]; exact Nat.lt_of_lt_of_le hadO B.out.size)).trans HCO.out)
      have B5 := Lib.hid (B.out.trans (hb5.mono B.out.size))
      have HW := Lib.hid (show CReads w5 w5.heap.size (some ad) l from (HR.out.below B5.out).more B5.out.size)
      have hx1 := cell_of_row w5 G 0 _ 53 (0, 0) X5.out
      have hx2 := cell_of_row w5 G 1 _ 53 (0, 0) X5.out
      have hx3 := cell_of_row w5 G 2 _ 53 (0, 0) X5.out
      have HW5 := Lib.hid hw5
      have HG5 := Lib.hid hG
      clear hcell hco hadB hadO hb5 hw5 hG
      go_upto_region 6 with (first | refine l_val rfl (run_at_T Try.underlying44 size53 (x := .tmp 14) (y := .tmp 15) (ad := ad) (i := k) rfl rfl rfl HLT.out _) ?_ | refine l_val rfl (run_load_triple Try.underlying53 size53 (x := .tmp 16) (d := at3 l k) rfl rfl HX.out) ?_)
      rw [← HW5.out, ← HG5.out]
      cases o with
      | true =>
        have NX := Lib.hid (HL.out.no (show elig l outs k = false by unfold elig; rw [← ho]; rfl))
        clear ho hlt
        go_wp2_with (first | refine l_val rfl (run_at_T Try.underlying23 size4 (x := .tmp 18) (y := .tmp 19) (ad := ado) (i := k) rfl rfl rfl HLTO.out _) ?_ | refine l_val rfl (run_load_bool (x := .tmp 20) rfl Try.underlying4 rfl HCO5.out) ?_)
        go_roundw
        case rel => exact ⟨k + 1, bi, by go_num, rfl, HLT.out, NX.out, B5.out⟩
        case measure => have := HLT.out; simp [intOf]; omega
      | false =>
        by_cases h1 : (at3 l k).2.1 < 0
        · have hd1 : decide ((at3 l k).2.1 < 0) = true := decide_eq_true h1
          have NX := Lib.hid (HL.out.no (show elig l outs k = false by unfold elig canC; rw [decide_eq_false (show ¬ 0 ≤ (at3 l k).2.1 by omega)]; simp))
          clear ho h1 hlt
          go_wp2_with (first | refine l_val rfl (run_at_T Try.underlying23 size4 (x := .tmp 18) (y := .tmp 19) (ad := ado) (i := k) rfl rfl rfl HLTO.out _) ?_ | refine l_val rfl (run_load_bool (x := .tmp 20) rfl Try.underlying4 rfl HCO5.out) ?_)
          go_roundw
          case rel => exact ⟨k + 1, bi, by go_num, rfl, HLT.out, NX.out, B5.out⟩
          case measure => have := HLT.out; simp [intOf]; omega
        · have hd1 : decide ((at3 l k).2.1 < 0) = false := decide_eq_false h1
          by_cases h2 : (at3 l k).2.2 < (at3 l k).2.1
          · have hd2 : decide ((at3 l k).2.2 < (at3 l k).2.1) = true := decide_eq_true h2
            have NX := Lib.hid (HL.out.no (show elig l outs k = false by unfold elig canC; rw [decide_eq_false (show ¬ (at3 l k).2.1 ≤ (at3 l k).2.2 by omega)]; simp))
            clear ho h1 h2 hlt
            go_wp2_with (first | refine l_val rfl (run_at_T Try.underlying23 size4 (x := .tmp 18) (y := .tmp 19) (ad := ado) (i := k) rfl rfl rfl HLTO.out _) ?_ | refine l_val rfl (run_load_bool (x := .tmp 20) rfl Try.underlying4 rfl HCO5.out) ?_)
            go_roundw
            case rel => exact ⟨k + 1, bi, by go_num, rfl, HLT.out, NX.out, B5.out⟩
            case measure => have := HLT.out; simp [intOf]; omega
          · have hd2 : decide ((at3 l k).2.2 < (at3 l k).2.1) = false := decide_eq_false h2
            have HE := Lib.hid (show elig l outs k = true by
              unfold elig canC
              rw [← ho, decide_eq_true (show 0 ≤ (at3 l k).2.1 by omega), decide_eq_true (show (at3 l k).2.1 ≤ (at3 l k).2.2 by omega)]; rfl)
            clear ho h1 h2 hlt
            go_upto_region 7 with (first | refine l_val rfl (run_at_T Try.underlying23 size4 (x := .tmp 18) (y := .tmp 19) (ad := ado) (i := k) rfl rfl rfl HLTO.out _) ?_ | refine l_val rfl (run_load_bool (x := .tmp 20) rfl Try.underlying4 rfl HCO5.out) ?_)
            clear hd1 hd2 hx1 hx2 hx3
            go_cut [65] (fun r wx => (∃ t, r = .bool t ∧ (t = true → BestTo l outs (k + 1) (k : Int)) ∧ (t = false → BestTo l outs (k + 1) bi)) ∧ Hid (Below w5.heap.size w5 wx))
            case first =>
              rcases HL.out with ⟨rfl, hall⟩ | ⟨b, hbk, rfl, heq, hall⟩
              · have KF := Lib.hid (BestTo.first HL.out HE.out)
                clear hall
                refine r_region (fun w' => Below w5.heap.size w5 w') (by kernel_rfl) (by kernel_rfl) (Below.refl _ _).drew ?_
                refine r_move_is rfl (.tmp 5) (.int .i64 (-1)) rfl rfl ?_
                simp only [Act.put, List.setIfInBounds_toArray, List.set_cons_succ, List.set_cons_zero]
                refine r_val rfl (fun w' hw' => run_lss_i (x := .tmp 34) (y := .const (.int .i64 0)) rfl rfl rfl true (by decide) w') ?_
                simp only [Act.put, List.setIfInBounds_toArray, List.set_cons_succ, List.set_cons_zero]
                refine r_move_is rfl (.tmp 35) (.bool true) rfl rfl ?_
                simp only [Act.put, List.setIfInBounds_toArray, List.set_cons_succ, List.set_cons_zero]
                refine r_skip rfl ?_
                simp only [Act.put, List.setIfInBounds_toArray, List.set_cons_succ, List.set_cons_zero]
                refine r_skip rfl ?_
                simp only [Act.put, List.setIfInBounds_toArray, List.set_cons_succ, List.set_cons_zero]
                refine r_skip rfl ?_
                simp only [Act.put, List.setIfInBounds_toArray, List.set_cons_succ, List.set_cons_zero]
                refine r_skip rfl ?_
                simp only [Act.put, List.setIfInBounds_toArray, List.set_cons_succ, List.set_cons_zero]
                refine r_skip rfl ?_
                simp only [Act.put, List.setIfInBounds_toArray, List.set_cons_succ, List.set_cons_zero]
                refine r_skip rfl ?_
                simp only [Act.put, List.setIfInBounds_toArray, List.set_cons_succ, List.set_cons_zero]
                refine r_skip rfl ?_
                simp only [Act.put, List.setIfInBounds_toArray, List.set_cons_succ, List.set_cons_zero]
                refine r_skip rfl ?_
                simp only [Act.put, List.setIfInBounds_toArray, List.set_cons_succ, List.set_cons_zero]
                refine r_val rfl (fun w' hw' => run_pick_is (c := .tmp 36) (a := .const (.bool true)) (b := .tmp 44) rfl (t := true) rfl (.bool true) rfl w') ?_
                simp only [Act.put, List.setIfInBounds_toArray, List.set_cons_succ, List.set_cons_zero]
                refine r_move_is rfl (.tmp 45) (.bool true) rfl rfl ?_
                simp only [Act.put, List.setIfInBounds_toArray, List.set_cons_succ, List.set_cons_zero]
                refine r_skip rfl ?_
                simp only [Act.put, List.setIfInBounds_toArray, List.set_cons_succ, List.set_cons_zero]
                refine r_skip rfl ?_
                simp only [Act.put, List.setIfInBounds_toArray, List.set_cons_succ, List.set_cons_zero]
                refine r_skip rfl ?_
                simp only [Act.put, List.setIfInBounds_toArray, List.set_cons_succ, List.set_cons_zero]
                refine r_skip rfl ?_
                simp only [Act.put, List.setIfInBounds_toArray, List.set_cons_succ, List.set_cons_zero]
                refine r_skip rfl ?_
                simp only [Act.put, List.setIfInBounds_toArray, List.set_cons_succ, List.set_cons_zero]
                refine r_skip rfl ?_
                simp only [Act.put, List.setIfInBounds_toArray, List.set_cons_succ, List.set_cons_zero]
                refine r_skip rfl ?_
                simp only [Act.put, List.setIfInBounds_toArray, List.set_cons_succ, List.set_cons_zero]
                refine r_skip rfl ?_
                simp only [Act.put, List.setIfInBounds_toArray, List.set_cons_succ, List.set_cons_zero]
                refine r_skip rfl ?_
                simp only [Act.put, List.setIfInBounds_toArray, List.set_cons_succ, List.set_cons_zero]
                refine r_skip rfl ?_
                simp only [Act.put, List.setIfInBounds_toArray, List.set_cons_succ, List.set_cons_zero]
                refine r_skip rfl ?_
                simp only [Act.put, List.setIfInBounds_toArray, List.set_cons_succ, List.set_cons_zero]
                refine r_skip rfl ?_
                simp only [Act.put, List.setIfInBounds_toArray, List.set_cons_succ, List.set_cons_zero]
                refine r_skip rfl ?_
                simp only [Act.put, List.setIfInBounds_toArray, List.set_cons_succ, List.set_cons_zero]
                refine r_skip rfl ?_
                simp only [Act.put, List.setIfInBounds_toArray, List.set_cons_succ, List.set_cons_zero]
                refine r_skip rfl ?_
                simp only [Act.put, List.setIfInBounds_toArray, List.set_cons_succ, List.set_cons_zero]
                refine r_skip rfl ?_
                simp only [Act.put, List.setIfInBounds_toArray, List.set_cons_succ, List.set_cons_zero]
                refine r_skip rfl ?_
                simp only [Act.put, List.setIfInBounds_toArray, List.set_cons_succ, List.set_cons_zero]
                refine r_skip rfl ?_
                simp only [Act.put, List.setIfInBounds_toArray, List.set_cons_succ, List.set_cons_zero]
                refine r_val rfl (fun w' hw' => run_pick_is (c := .tmp 46) (a := .const (.bool true)) (b := .tmp 64) rfl (t := true) rfl (.bool true) rfl w') ?_
                simp only [Act.put, List.setIfInBounds_toArray, List.set_cons_succ, List.set_cons_zero]
                refine r_nil ?_
                intro w6 hw2
                go_wp2_with fail
                go_meet
                exact ⟨⟨true, rfl, fun _ => KF.out, fun h => (by cases h)⟩, Lib.hid hw2⟩
              · have B0 := Lib.hid (show decide ((b : Int) < 0) = false from decide_eq_false (by omega))
                have HBL := Lib.hid (show b < l.length by have := HLT.out; omega)
                have NX := Lib.hid (BestTo.next HL.out HE.out)
                clear hbk hall heq
                by_cases e1 : (at3 l k).2.1 < (at3 l b).2.1
                · have E1 := Lib.hid (decide_eq_true e1)
                  have KF := Lib.hid (NX.out.1 ((less_iff _ _).2 (.inl e1)))
                  clear e1
                  refine r_region (fun w' => Below w5.heap.size w5 w') (by kernel_rfl) (by kernel_rfl) (Below.refl _ _).drew ?_
                  refine r_move_is rfl (.tmp 5) (.int .i64 (b : Int)) rfl rfl ?_
                  simp only [Act.put, List.setIfInBounds_toArray, List.set_cons_succ, List.set_cons_zero]
                  refine r_val rfl (fun w' hw' => run_lss_i (x := .tmp 34) (y := .const (.int .i64 0)) rfl rfl rfl false B0.out w') ?_
                  simp only [Act.put, List.setIfInBounds_toArray, List.set_cons_succ, List.set_cons_zero]
                  refine r_move_is rfl (.tmp 35) (.bool false) rfl rfl ?_
                  simp only [Act.put, List.setIfInBounds_toArray, List.set_cons_succ, List.set_cons_zero]
                  refine r_val rfl (fun w' hw' => run_fld53_1 (x := .tmp 7) rfl rfl w') ?_
                  simp only [Act.put, List.setIfInBounds_toArray, List.set_cons_succ, List.set_cons_zero]
                  refine r_val rfl (fun w' hw' => run_load_int (x := .tmp 37) rfl Try.underlying3 rfl (tri_cell X5.out hw').2.1) ?_
                  simp only [Act.put, List.setIfInBounds_toArray, List.set_cons_succ, List.set_cons_zero]
                  refine r_move_is rfl (.tmp 0) (.slice (some ad) l.length c) rfl rfl ?_
                  simp only [Act.put, List.setIfInBounds_toArray, List.set_cons_succ, List.set_cons_zero]
                  refine r_move_is rfl (.tmp 5) (.int .i64 (b : Int)) rfl rfl ?_
                  simp only [Act.put, List.setIfInBounds_toArray, List.set_cons_succ, List.set_cons_zero]
                  refine r_val rfl (fun w' hw' => run_at_T Try.underlying44 size53 (x := .tmp 39) (y := .tmp 40) (i := b) rfl rfl rfl HBL.out w') ?_
                  simp only [Act.put, List.setIfInBounds_toArray, List.set_cons_succ, List.set_cons_zero]
                  refine r_val rfl (fun w' hw' => run_fld53_1 (x := .tmp 41) rfl rfl w') ?_
                  simp only [Act.put, List.setIfInBounds_toArray, List.set_cons_succ, List.set_cons_zero]
                  refine r_val rfl (fun w' hw' => run_load_int (x := .tmp 42) rfl Try.underlying3 rfl (creads_cell HW.out hw' HBL.out).2.1) ?_
                  simp only [Act.put, List.setIfInBounds_toArray, List.set_cons_succ, List.set_cons_zero]
                  refine r_val rfl (fun w' hw' => run_lss_i (x := .tmp 38) (y := .tmp 43) rfl rfl rfl true E1.out w') ?_
                  simp only [Act.put, List.setIfInBounds_toArray, List.set_cons_succ, List.set_cons_zero]
                  refine r_val rfl (fun w' hw' => run_pick_is (c := .tmp 36) (a := .const (.bool true)) (b := .tmp 44) rfl (t := false) rfl (.bool true) rfl w') ?_
                  simp only [Act.put, List.setIfInBounds_toArray, List.set_cons_succ, List.set_cons_zero]
                  refine r_move_is rfl (.tmp 45) (.bool true) rfl rfl ?_
                  simp only [Act.put, List.setIfInBounds_toArray, List.set_cons_succ, List.set_cons_zero]
                  refine r_skip rfl ?_
                  simp only [Act.put, List.setIfInBounds_toArray, List.set_cons_succ, List.set_cons_zero]
                  refine r_skip rfl ?_
                  simp only [Act.put, List.setIfInBounds_toArray, List.set_cons_succ, List.set_cons_zero]
                  refine r_skip rfl ?_
                  simp only [Act.put, List.setIfInBounds_toArray, List.set_cons_succ, List.set_cons_zero]
                  refine r_skip rfl ?_
                  simp only [Act.put, List.setIfInBounds_toArray, List.set_cons_succ, List.set_cons_zero]
                  refine r_skip rfl ?_
                  simp only [Act.put, List.setIfInBounds_toArray, List.set_cons_succ, List.set_cons_zero]
                  refine r_skip rfl ?_
                  simp only [Act.put, List.setIfInBounds_toArray, List.set_cons_succ, List.set_cons_zero]
                  refine r_skip rfl ?_
                  simp only [Act.put, List.setIfInBounds_toArray, List.set_cons_succ, List.set_cons_zero]
                  refine r_skip rfl ?_
                  simp only [Act.put, List.setIfInBounds_toArray, List.set_cons_succ, List.set_cons_zero]
                  refine r_skip rfl ?_
                  simp only [Act.put, List.setIfInBounds_toArray, List.set_cons_succ, List.set_cons_zero]
                  refine r_skip rfl ?_
                  simp only [Act.put, List.setIfInBounds_toArray, List.set_cons_succ, List.set_cons_zero]
                  refine r_skip rfl ?_
                  simp only [Act.put, List.setIfInBounds_toArray, List.set_cons_succ, List.set_cons_zero]
                  refine r_skip rfl ?_
                  simp only [Act.put, List.setIfInBounds_toArray, List.set_cons_succ, List.set_cons_zero]
                  refine r_skip rfl ?_
                  simp only [Act.put, List.setIfInBounds_toArray, List.set_cons_succ, List.set_cons_zero]
                  refine r_skip rfl ?_
                  simp only [Act.put, List.setIfInBounds_toArray, List.set_cons_succ, List.set_cons_zero]
                  refine r_skip rfl ?_
                  simp only [Act.put, List.setIfInBounds_toArray, List.set_cons_succ, List.set_cons_zero]
                  refine r_skip rfl ?_
                  simp only [Act.put, List.setIfInBounds_toArray, List.set_cons_succ, List.set_cons_zero]
                  refine r_skip rfl ?_
                  simp only [Act.put, List.setIfInBounds_toArray, List.set_cons_succ, List.set_cons_zero]
                  refine r_skip rfl ?_
                  simp only [Act.put, List.setIfInBounds_toArray, List.set_cons_succ, List.set_cons_zero]
                  refine r_val rfl (fun w' hw' => run_pick_is (c := .tmp 46) (a := .const (.bool true)) (b := .tmp 64) rfl (t := true) rfl (.bool true) rfl w') ?_
                  simp only [Act.put, List.setIfInBounds_toArray, List.set_cons_succ, List.set_cons_zero]
                  refine r_nil ?_
                  intro w6 hw2
                  go_wp2_with fail
                  go_meet
                  exact ⟨⟨true, rfl, fun _ => KF.out, fun h => (by cases h)⟩, Lib.hid hw2⟩
                · have E1 := Lib.hid (decide_eq_false e1)
                  by_cases e2 : (at3 l k).2.1 = (at3 l b).2.1
                  · have E2 := Lib.hid (decide_eq_true e2)
                    obtain ⟨t, ht⟩ : ∃ t, decide ((at3 l k).1 < (at3 l b).1) = t := ⟨_, rfl⟩
                    have E3 := Lib.hid ht
                    have HT := Lib.hid (show less (key (at3 l k)) (key (at3 l b)) = t by unfold less key; rw [if_pos e2, ht])
                    clear e1 e2 ht
                    refine r_region (fun w' => Below w5.heap.size w5 w') (by kernel_rfl) (by kernel_rfl) (Below.refl _ _).drew ?_
                    refine r_move_is rfl (.tmp 5) (.int .i64 (b : Int)) rfl rfl ?_
                    simp only [Act.put, List.setIfInBounds_toArray, List.set_cons_succ, List.set_cons_zero]
                    refine r_val rfl (fun w' hw' => run_lss_i (x := .tmp 34) (y := .const (.int .i64 0)) rfl rfl rfl false B0.out w') ?_
                    simp only [Act.put, List.setIfInBounds_toArray, List.set_cons_succ, List.set_cons_zero]
                    refine r_move_is rfl (.tmp 35) (.bool false) rfl rfl ?_
                    simp only [Act.put, List.setIfInBounds_toArray, List.set_cons_succ, List.set_cons_zero]
                    refine r_val rfl (fun w' hw' => run_fld53_1 (x := .tmp 7) rfl rfl w') ?_
                    simp only [Act.put, List.setIfInBounds_toArray, List.set_cons_succ, List.set_cons_zero]
                    refine r_val rfl (fun w' hw' => run_load_int (x := .tmp 37) rfl Try.underlying3 rfl (tri_cell X5.out hw').2.1) ?_
                    simp only [Act.put, List.setIfInBounds_toArray, List.set_cons_succ, List.set_cons_zero]
                    refine r_move_is rfl (.tmp 0) (.slice (some ad) l.length c) rfl rfl ?_
                    simp only [Act.put, List.setIfInBounds_toArray, List.set_cons_succ, List.set_cons_zero]
                    refine r_move_is rfl (.tmp 5) (.int .i64 (b : Int)) rfl rfl ?_
                    simp only [Act.put, List.setIfInBounds_toArray, List.set_cons_succ, List.set_cons_zero]
                    refine r_val rfl (fun w' hw' => run_at_T Try.underlying44 size53 (x := .tmp 39) (y := .tmp 40) (i := b) rfl rfl rfl HBL.out w') ?_
                    simp only [Act.put, List.setIfInBounds_toArray, List.set_cons_succ, List.set_cons_zero]
                    refine r_val rfl (fun w' hw' => run_fld53_1 (x := .tmp 41) rfl rfl w') ?_
                    simp only [Act.put, List.setIfInBounds_toArray, List.set_cons_succ, List.set_cons_zero]
                    refine r_val rfl (fun w' hw' => run_load_int (x := .tmp 42) rfl Try.underlying3 rfl (creads_cell HW.out hw' HBL.out).2.1) ?_
                    simp only [Act.put, List.setIfInBounds_toArray, List.set_cons_succ, List.set_cons_zero]
                    refine r_val rfl (fun w' hw' => run_lss_i (x := .tmp 38) (y := .tmp 43) rfl rfl rfl false E1.out w') ?_
                    simp only [Act.put, List.setIfInBounds_toArray, List.set_cons_succ, List.set_cons_zero]
                    refine r_val rfl (fun w' hw' => run_pick_is (c := .tmp 36) (a := .const (.bool true)) (b := .tmp 44) rfl (t := false) rfl (.bool false) rfl w') ?_
                    simp only [Act.put, List.setIfInBounds_toArray, List.set_cons_succ, List.set_cons_zero]
                    refine r_move_is rfl (.tmp 45) (.bool false) rfl rfl ?_
                    simp only [Act.put, List.setIfInBounds_toArray, List.set_cons_succ, List.set_cons_zero]
                    refine r_val rfl (fun w' hw' => run_fld53_1 (x := .tmp 7) rfl rfl w') ?_
                    simp only [Act.put, List.setIfInBounds_toArray, List.set_cons_succ, List.set_cons_zero]
                    refine r_val rfl (fun w' hw' => run_load_int (x := .tmp 47) rfl Try.underlying3 rfl (tri_cell X5.out hw').2.1) ?_
                    simp only [Act.put, List.setIfInBounds_toArray, List.set_cons_succ, List.set_cons_zero]
                    refine r_move_is rfl (.tmp 0) (.slice (some ad) l.length c) rfl rfl ?_
                    simp only [Act.put, List.setIfInBounds_toArray, List.set_cons_succ, List.set_cons_zero]
                    refine r_move_is rfl (.tmp 5) (.int .i64 (b : Int)) rfl rfl ?_
                    simp only [Act.put, List.setIfInBounds_toArray, List.set_cons_succ, List.set_cons_zero]
                    refine r_val rfl (fun w' hw' => run_at_T Try.underlying44 size53 (x := .tmp 49) (y := .tmp 50) (i := b) rfl rfl rfl HBL.out w') ?_
                    simp only [Act.put, List.setIfInBounds_toArray, List.set_cons_succ, List.set_cons_zero]
                    refine r_val rfl (fun w' hw' => run_fld53_1 (x := .tmp 51) rfl rfl w') ?_
                    simp only [Act.put, List.setIfInBounds_toArray, List.set_cons_succ, List.set_cons_zero]
                    refine r_val rfl (fun w' hw' => run_load_int (x := .tmp 52) rfl Try.underlying3 rfl (creads_cell HW.out hw' HBL.out).2.1) ?_
                    simp only [Act.put, List.setIfInBounds_toArray, List.set_cons_succ, List.set_cons_zero]
                    refine r_val rfl (fun w' hw' => run_eql_i (x := .tmp 48) (y := .tmp 53) rfl rfl rfl true E2.out w') ?_
                    simp only [Act.put, List.setIfInBounds_toArray, List.set_cons_succ, List.set_cons_zero]
                    refine r_move_is rfl (.tmp 54) (.bool true) rfl rfl ?_
                    simp only [Act.put, List.setIfInBounds_toArray, List.set_cons_succ, List.set_cons_zero]
                    refine r_val rfl (fun w' hw' => run_fld53_0 (x := .tmp 7) rfl rfl w') ?_
                    simp only [Act.put, List.setIfInBounds_toArray, List.set_cons_succ, List.set_cons_zero]
                    refine r_val rfl (fun w' hw' => run_load_int (x := .tmp 56) rfl Try.underlying3 rfl (tri_cell X5.out hw').1) ?_
                    simp only [Act.put, List.setIfInBounds_toArray, List.set_cons_succ, List.set_cons_zero]
                    refine r_move_is rfl (.tmp 0) (.slice (some ad) l.length c) rfl rfl ?_
                    simp only [Act.put, List.setIfInBounds_toArray, List.set_cons_succ, List.set_cons_zero]
                    refine r_move_is rfl (.tmp 5) (.int .i64 (b : Int)) rfl rfl ?_
                    simp only [Act.put, List.setIfInBounds_toArray, List.set_cons_succ, List.set_cons_zero]
                    refine r_val rfl (fun w' hw' => run_at_T Try.underlying44 size53 (x := .tmp 58) (y := .tmp 59) (i := b) rfl rfl rfl HBL.out w') ?_
                    simp only [Act.put, List.setIfInBounds_toArray, List.set_cons_succ, List.set_cons_zero]
                    refine r_val rfl (fun w' hw' => run_fld53_0 (x := .tmp 60) rfl rfl w') ?_
                    simp only [Act.put, List.setIfInBounds_toArray, List.set_cons_succ, List.set_cons_zero]
                    refine r_val rfl (fun w' hw' => run_load_int (x := .tmp 61) rfl Try.underlying3 rfl (creads_cell HW.out hw' HBL.out).1) ?_
                    simp only [Act.put, List.setIfInBounds_toArray, List.set_cons_succ, List.set_cons_zero]
                    refine r_val rfl (fun w' hw' => run_lss_i (x := .tmp 57) (y := .tmp 62) rfl rfl rfl t E3.out w') ?_
                    simp only [Act.put, List.setIfInBounds_toArray, List.set_cons_succ, List.set_cons_zero]
                    refine r_val rfl (fun w' hw' => run_pick_is (c := .tmp 55) (a := .tmp 63) (b := .const (.bool false)) rfl (t := true) rfl (.bool t) rfl w') ?_
                    simp only [Act.put, List.setIfInBounds_toArray, List.set_cons_succ, List.set_cons_zero]
                    refine r_val rfl (fun w' hw' => run_pick_is (c := .tmp 46) (a := .const (.bool true)) (b := .tmp 64) rfl (t := false) rfl (.bool t) rfl w') ?_
                    simp only [Act.put, List.setIfInBounds_toArray, List.set_cons_succ, List.set_cons_zero]
                    refine r_nil ?_
                    intro w6 hw2
                    go_wp2_with fail
                    go_meet
                    exact ⟨⟨t, rfl, fun h => NX.out.1 (HT.out.trans h), fun h => NX.out.2 (HT.out.trans h)⟩, Lib.hid hw2⟩
                  · have E2 := Lib.hid (decide_eq_false e2)
                    have KF := Lib.hid (NX.out.2 ((less_not _ _).2 (by unfold key; simp only; omega)))
                    clear e1 e2
                    refine r_region (fun w' => Below w5.heap.size w5 w') (by kernel_rfl) (by kernel_rfl) (Below.refl _ _).drew ?_
                    refine r_move_is rfl (.tmp 5) (.int .i64 (b : Int)) rfl rfl ?_
                    simp only [Act.put, List.setIfInBounds_toArray, List.set_cons_succ, List.set_cons_zero]
                    refine r_val rfl (fun w' hw' => run_lss_i (x := .tmp 34) (y := .const (.int .i64 0)) rfl rfl rfl false B0.out w') ?_
                    simp only [Act.put, List.setIfInBounds_toArray, List.set_cons_succ, List.set_cons_zero]
                    refine r_move_is rfl (.tmp 35) (.bool false) rfl rfl ?_
                    simp only [Act.put, List.setIfInBounds_toArray, List.set_cons_succ, List.set_cons_zero]
                    refine r_val rfl (fun w' hw' => run_fld53_1 (x := .tmp 7) rfl rfl w') ?_
                    simp only [Act.put, List.setIfInBounds_toArray, List.set_cons_succ, List.set_cons_zero]
                    refine r_val rfl (fun w' hw' => run_load_int (x := .tmp 37) rfl Try.underlying3 rfl (tri_cell X5.out hw').2.1) ?_
                    simp only [Act.put, List.setIfInBounds_toArray, List.set_cons_succ, List.set_cons_zero]
                    refine r_move_is rfl (.tmp 0) (.slice (some ad) l.length c) rfl rfl ?_
                    simp only [Act.put, List.setIfInBounds_toArray, List.set_cons_succ, List.set_cons_zero]
                    refine r_move_is rfl (.tmp 5) (.int .i64 (b : Int)) rfl rfl ?_
                    simp only [Act.put, List.setIfInBounds_toArray, List.set_cons_succ, List.set_cons_zero]
                    refine r_val rfl (fun w' hw' => run_at_T Try.underlying44 size53 (x := .tmp 39) (y := .tmp 40) (i := b) rfl rfl rfl HBL.out w') ?_
                    simp only [Act.put, List.setIfInBounds_toArray, List.set_cons_succ, List.set_cons_zero]
                    refine r_val rfl (fun w' hw' => run_fld53_1 (x := .tmp 41) rfl rfl w') ?_
                    simp only [Act.put, List.setIfInBounds_toArray, List.set_cons_succ, List.set_cons_zero]
                    refine r_val rfl (fun w' hw' => run_load_int (x := .tmp 42) rfl Try.underlying3 rfl (creads_cell HW.out hw' HBL.out).2.1) ?_
                    simp only [Act.put, List.setIfInBounds_toArray, List.set_cons_succ, List.set_cons_zero]
                    refine r_val rfl (fun w' hw' => run_lss_i (x := .tmp 38) (y := .tmp 43) rfl rfl rfl false E1.out w') ?_
                    simp only [Act.put, List.setIfInBounds_toArray, List.set_cons_succ, List.set_cons_zero]
                    refine r_val rfl (fun w' hw' => run_pick_is (c := .tmp 36) (a := .const (.bool true)) (b := .tmp 44) rfl (t := false) rfl (.bool false) rfl w') ?_
                    simp only [Act.put, List.setIfInBounds_toArray, List.set_cons_succ, List.set_cons_zero]
                    refine r_move_is rfl (.tmp 45) (.bool false) rfl rfl ?_
                    simp only [Act.put, List.setIfInBounds_toArray, List.set_cons_succ, List.set_cons_zero]
                    refine r_val rfl (fun w' hw' => run_fld53_1 (x := .tmp 7) rfl rfl w') ?_
                    simp only [Act.put, List.setIfInBounds_toArray, List.set_cons_succ, List.set_cons_zero]
                    refine r_val rfl (fun w' hw' => run_load_int (x := .tmp 47) rfl Try.underlying3 rfl (tri_cell X5.out hw').2.1) ?_
                    simp only [Act.put, List.setIfInBounds_toArray, List.set_cons_succ, List.set_cons_zero]
                    refine r_move_is rfl (.tmp 0) (.slice (some ad) l.length c) rfl rfl ?_
                    simp only [Act.put, List.setIfInBounds_toArray, List.set_cons_succ, List.set_cons_zero]
                    refine r_move_is rfl (.tmp 5) (.int .i64 (b : Int)) rfl rfl ?_
                    simp only [Act.put, List.setIfInBounds_toArray, List.set_cons_succ, List.set_cons_zero]
                    refine r_val rfl (fun w' hw' => run_at_T Try.underlying44 size53 (x := .tmp 49) (y := .tmp 50) (i := b) rfl rfl rfl HBL.out w') ?_
                    simp only [Act.put, List.setIfInBounds_toArray, List.set_cons_succ, List.set_cons_zero]
                    refine r_val rfl (fun w' hw' => run_fld53_1 (x := .tmp 51) rfl rfl w') ?_
                    simp only [Act.put, List.setIfInBounds_toArray, List.set_cons_succ, List.set_cons_zero]
                    refine r_val rfl (fun w' hw' => run_load_int (x := .tmp 52) rfl Try.underlying3 rfl (creads_cell HW.out hw' HBL.out).2.1) ?_
                    simp only [Act.put, List.setIfInBounds_toArray, List.set_cons_succ, List.set_cons_zero]
                    refine r_val rfl (fun w' hw' => run_eql_i (x := .tmp 48) (y := .tmp 53) rfl rfl rfl false E2.out w') ?_
                    simp only [Act.put, List.setIfInBounds_toArray, List.set_cons_succ, List.set_cons_zero]
                    refine r_move_is rfl (.tmp 54) (.bool false) rfl rfl ?_
                    simp only [Act.put, List.setIfInBounds_toArray, List.set_cons_succ, List.set_cons_zero]
                    refine r_skip rfl ?_
                    simp only [Act.put, List.setIfInBounds_toArray, List.set_cons_succ, List.set_cons_zero]
                    refine r_skip rfl ?_
                    simp only [Act.put, List.setIfInBounds_toArray, List.set_cons_succ, List.set_cons_zero]
                    refine r_skip rfl ?_
                    simp only [Act.put, List.setIfInBounds_toArray, List.set_cons_succ, List.set_cons_zero]
                    refine r_skip rfl ?_
                    simp only [Act.put, List.setIfInBounds_toArray, List.set_cons_succ, List.set_cons_zero]
                    refine r_skip rfl ?_
                    simp only [Act.put, List.setIfInBounds_toArray, List.set_cons_succ, List.set_cons_zero]
                    refine r_skip rfl ?_
                    simp only [Act.put, List.setIfInBounds_toArray, List.set_cons_succ, List.set_cons_zero]
                    refine r_skip rfl ?_
                    simp only [Act.put, List.setIfInBounds_toArray, List.set_cons_succ, List.set_cons_zero]
                    refine r_skip rfl ?_
                    simp only [Act.put, List.setIfInBounds_toArray, List.set_cons_succ, List.set_cons_zero]
                    refine r_val rfl (fun w' hw' => run_pick_is (c := .tmp 55) (a := .tmp 63) (b := .const (.bool false)) rfl (t := false) rfl (.bool false) rfl w') ?_
                    simp only [Act.put, List.setIfInBounds_toArray, List.set_cons_succ, List.set_cons_zero]
                    refine r_val rfl (fun w' hw' => run_pick_is (c := .tmp 46) (a := .const (.bool true)) (b := .tmp 64) rfl (t := false) rfl (.bool false) rfl w') ?_
                    simp only [Act.put, List.setIfInBounds_toArray, List.set_cons_succ, List.set_cons_zero]
                    refine r_nil ?_
                    intro w6 hw2
                    go_wp2_with fail
                    go_meet
                    exact ⟨⟨false, rfl, fun h => (by cases h), fun _ => KF.out⟩, Lib.hid hw2⟩
            case rest =>
              obtain ⟨⟨t, rfl, ht, hf⟩, hw6⟩ := hcut
              have HT := Lib.hid ht
              have HF := Lib.hid hf
              clear ht hf
              cases t
              · go_wp2_with fail
                go_roundw
                case rel => exact ⟨k + 1, bi, by go_num, rfl, HLT.out, HF.out rfl, B5.out.trans (hw6.out.mono B5.out.size)⟩
                case measure => have := HLT.out; simp [intOf]; omega
              · go_wp2_with fail
                go_roundw
                case rel => exact ⟨k + 1, k, by go_num, rfl, HLT.out, HT.out rfl, B5.out.trans (hw6.out.mono B5.out.size)⟩
                case measure => have := HLT.out; simp [intOf]; omega
    · have hkl : k = l.length := by omega
      go_wp2_with fail
      go_ret
      exact ⟨bi, rfl, hkl ▸ HL.out, B.out⟩
end Go.Proofs.Ytcmbmocineegoaa
