/-
  What the document's Least answers: the place of a least pair.
  Conditions: none.
-/
import Derived.Test.YtcmbmocineegoaaRefs
namespace Go.Proofs.Ytcmbmocineegoaa
open Go.ChangeShapes Go.WideShapes Go.ChangeAt Go.RowKit

def LeastTo (l : List D) (i : Nat) (k : Int) : Prop := (i = 0 ∧ k = -1) ∨ ∃ b : Nat, b < i ∧ k = (b : Int) ∧ ∀ j, j < i → less (at_ l j) (at_ l b) = false
theorem LeastTo.first (l : List D) : LeastTo l 1 ((0 : Nat) : Int) := .inr ⟨0, by omega, rfl, fun j hj => by
  have e : j = 0 := by omega
  rw [e]; exact less_irrefl _⟩
theorem LeastTo.next {l : List D} {i b : Nat} (hb : b < i) (h : ∀ j, j < i → less (at_ l j) (at_ l b) = false) : (less (at_ l i) (at_ l b) = true → LeastTo l (i + 1) (i : Int)) ∧ (less (at_ l i) (at_ l b) = false → LeastTo l (i + 1) (b : Int)) := by
  refine ⟨fun hl => .inr ⟨i, by omega, rfl, fun j hj => ?_⟩, fun hl => .inr ⟨b, by omega, rfl, fun j hj => ?_⟩⟩
  · by_cases e : j = i
    · rw [e]; exact less_irrefl _
    · exact le_trans' (less_asymm hl) (h j (by omega))
  · by_cases e : j = i
    · rw [e]; exact hl
    · exact h j (by omega)

set_option maxRecDepth 100000 in
set_option maxHeartbeats 1000000 in
theorem least_any (w : World) (A : Option Addr) (c : Nat) (l : List D) (hr : DReads w w.heap.size A l) (hn : l.length ≤ 1000) :
    Calls Try.prog 17 #[.slice A l.length c] w fun e w' => ∃ k : Int, e = .returned (.int .i64 k) ∧ LeastTo l l.length k ∧ Below w.heap.size w w' := by
  have HR := Lib.hid hr
  clear hr
  go_enter Try.func17, Try.ntmps17
  go_wp2_with fail
  go_loopw [3, 4] (fun b i wr => ∃ (k : Nat) (bi : Int), i = .int .i64 k ∧ b = .int .i64 bi ∧ k ≤ l.length ∧ LeastTo l k bi ∧ Below w.heap.size w wr) (fun _ i _ => l.length - (intOf i).toNat)
  case atStart => exact ⟨0, -1, rfl, rfl, by omega, .inl ⟨rfl, rfl⟩, Below.refl _ _⟩
  case round =>
    obtain ⟨k, bi, rfl, rfl, hk, hL, hb⟩ := hrel
    have B := Lib.hid hb
    have HL := Lib.hid hL
    clear hb hL
    by_cases hlt : k < l.length
    · have HLT := Lib.hid hlt
      obtain ⟨ad, rfl, hadB, hcell⟩ := (HR.out.below B.out) (by omega)
      clear hadB hcell
      have HW := Lib.hid ((HR.out.below B.out).more B.out.size)
      go_upto_region 5 with fail
      go_cut [51] (fun r wx => (∃ t, r = .bool t ∧ (t = true → LeastTo l (k + 1) (k : Int)) ∧ (t = false → LeastTo l (k + 1) bi)) ∧ Hid (Below wr.heap.size wr wx))
      case first =>
        rcases HL.out with ⟨hk0, rfl⟩ | ⟨b, hbk, rfl, hall⟩
        · have KF := Lib.hid (show LeastTo l (k + 1) (k : Int) by rw [hk0]; exact LeastTo.first l)
          clear hlt hk0
          refine r_region (fun w' => Below wr.heap.size wr w') (by kernel_rfl) (by kernel_rfl) (Below.refl _ _).drew ?_
          refine r_move_is rfl (.tmp 3) (.int .i64 (-1)) rfl rfl ?_
          simp only [Act.put, List.setIfInBounds_toArray, List.set_cons_succ, List.set_cons_zero]
          refine r_val rfl (fun w' hw' => run_lss_i (x := .tmp 11) (y := .const (.int .i64 0)) rfl rfl rfl true (by decide) w') ?_
          simp only [Act.put, List.setIfInBounds_toArray, List.set_cons_succ, List.set_cons_zero]
          refine r_move_is rfl (.tmp 12) (.bool true) rfl rfl ?_
          simp only [Act.put, List.setIfInBounds_toArray, List.set_cons_succ, List.set_cons_zero]
          refine r_skip rfl ?_
          simp only [Act.put, List.setIfInBounds_toArray, List.set_cons_succ, List.set_cons_zero]
          refine r_skip rfl ?_
          simp only [Act.put, List.setIfInBounds_toArray, List.set_cons_succ, List.set_cons_zero]
          refine r_skip rfl ?_
          simp only [Act.put, List.setIfInBounds_toArray, List.set_cons_succ, List.set_cons_zero]
          refine r_skip rfl ?_
          simp only [Act.put, List.setIfInBounds_toArray, List.set_cons_succ, List.set_cons_zero]
          refine r_skip rfl ?_
          simp only [Act.put, List.setIfInBounds_toArray, List.set_cons_succ, List.set_cons_zero]
          refine r_skip rfl ?_
          simp only [Act.put, List.setIfInBounds_toArray, List.set_cons_succ, List.set_cons_zero]
          refine r_skip rfl ?_
          simp only [Act.put, List.setIfInBounds_toArray, List.set_cons_succ, List.set_cons_zero]
          refine r_skip rfl ?_
          simp only [Act.put, List.setIfInBounds_toArray, List.set_cons_succ, List.set_cons_zero]
          refine r_skip rfl ?_
          simp only [Act.put, List.setIfInBounds_toArray, List.set_cons_succ, List.set_cons_zero]
          refine r_skip rfl ?_
          simp only [Act.put, List.setIfInBounds_toArray, List.set_cons_succ, List.set_cons_zero]
          refine r_skip rfl ?_
          simp only [Act.put, List.setIfInBounds_toArray, List.set_cons_succ, List.set_cons_zero]
          refine r_val rfl (fun w' hw' => run_pick_is (c := .tmp 13) (a := .const (.bool true)) (b := .tmp 24) rfl (t := true) rfl (.bool true) rfl w') ?_
          simp only [Act.put, List.setIfInBounds_toArray, List.set_cons_succ, List.set_cons_zero]
          refine r_move_is rfl (.tmp 25) (.bool true) rfl rfl ?_
          simp only [Act.put, List.setIfInBounds_toArray, List.set_cons_succ, List.set_cons_zero]
          refine r_skip rfl ?_
          simp only [Act.put, List.setIfInBounds_toArray, List.set_cons_succ, List.set_cons_zero]
          refine r_skip rfl ?_
          simp only [Act.put, List.setIfInBounds_toArray, List.set_cons_succ, List.set_cons_zero]
          refine r_skip rfl ?_
          simp only [Act.put, List.setIfInBounds_toArray, List.set_cons_succ, List.set_cons_zero]
          refine r_skip rfl ?_
          simp only [Act.put, List.setIfInBounds_toArray, List.set_cons_succ, List.set_cons_zero]
          refine r_skip rfl ?_
          simp only [Act.put, List.setIfInBounds_toArray, List.set_cons_succ, List.set_cons_zero]
          refine r_skip rfl ?_
          simp only [Act.put, List.setIfInBounds_toArray, List.set_cons_succ, List.set_cons_zero]
          refine r_skip rfl ?_
          simp only [Act.put, List.setIfInBounds_toArray, List.set_cons_succ, List.set_cons_zero]
          refine r_skip rfl ?_
          simp only [Act.put, List.setIfInBounds_toArray, List.set_cons_succ, List.set_cons_zero]
          refine r_skip rfl ?_
          simp only [Act.put, List.setIfInBounds_toArray, List.set_cons_succ, List.set_cons_zero]
          refine r_skip rfl ?_
          simp only [Act.put, List.setIfInBounds_toArray, List.set_cons_succ, List.set_cons_zero]
          refine r_skip rfl ?_
          simp only [Act.put, List.setIfInBounds_toArray, List.set_cons_succ, List.set_cons_zero]
          refine r_skip rfl ?_
          simp only [Act.put, List.setIfInBounds_toArray, List.set_cons_succ, List.set_cons_zero]
          refine r_skip rfl ?_
          simp only [Act.put, List.setIfInBounds_toArray, List.set_cons_succ, List.set_cons_zero]
          refine r_skip rfl ?_
          simp only [Act.put, List.setIfInBounds_toArray, List.set_cons_succ, List.set_cons_zero]
          refine r_skip rfl ?_
          simp only [Act.put, List.setIfInBounds_toArray, List.set_cons_succ, List.set_cons_zero]
          refine r_skip rfl ?_
          simp only [Act.put, List.setIfInBounds_toArray, List.set_cons_succ, List.set_cons_zero]
          refine r_skip rfl ?_
          simp only [Act.put, List.setIfInBounds_toArray, List.set_cons_succ, List.set_cons_zero]
          refine r_skip rfl ?_
          simp only [Act.put, List.setIfInBounds_toArray, List.set_cons_succ, List.set_cons_zero]
          refine r_skip rfl ?_
          simp only [Act.put, List.setIfInBounds_toArray, List.set_cons_succ, List.set_cons_zero]
          refine r_skip rfl ?_
          simp only [Act.put, List.setIfInBounds_toArray, List.set_cons_succ, List.set_cons_zero]
          refine r_skip rfl ?_
          simp only [Act.put, List.setIfInBounds_toArray, List.set_cons_succ, List.set_cons_zero]
          refine r_skip rfl ?_
          simp only [Act.put, List.setIfInBounds_toArray, List.set_cons_succ, List.set_cons_zero]
          refine r_skip rfl ?_
          simp only [Act.put, List.setIfInBounds_toArray, List.set_cons_succ, List.set_cons_zero]
          refine r_skip rfl ?_
          simp only [Act.put, List.setIfInBounds_toArray, List.set_cons_succ, List.set_cons_zero]
          refine r_val rfl (fun w' hw' => run_pick_is (c := .tmp 26) (a := .const (.bool true)) (b := .tmp 50) rfl (t := true) rfl (.bool true) rfl w') ?_
          simp only [Act.put, List.setIfInBounds_toArray, List.set_cons_succ, List.set_cons_zero]
          refine r_nil ?_
          intro w5 hw2
          go_wp2_with fail
          go_meet
          exact ⟨⟨true, rfl, fun _ => KF.out, fun h => (by cases h)⟩, Lib.hid hw2⟩
        · have B0 := Lib.hid (show decide ((b : Int) < 0) = false from decide_eq_false (by omega))
          have HBL := Lib.hid (show b < l.length by omega)
          have NX := Lib.hid (LeastTo.next hbk hall)
          clear hbk hall
          by_cases e1 : (at_ l k).1 < (at_ l b).1
          · have E1 := Lib.hid (decide_eq_true e1)
            have KF := Lib.hid (NX.out.1 ((less_iff _ _).2 (.inl e1)))
            clear e1 hlt
            refine r_region (fun w' => Below wr.heap.size wr w') (by kernel_rfl) (by kernel_rfl) (Below.refl _ _).drew ?_
            refine r_move_is rfl (.tmp 3) (.int .i64 (b : Int)) rfl rfl ?_
            simp only [Act.put, List.setIfInBounds_toArray, List.set_cons_succ, List.set_cons_zero]
            refine r_val rfl (fun w' hw' => run_lss_i (x := .tmp 11) (y := .const (.int .i64 0)) rfl rfl rfl false B0.out w') ?_
            simp only [Act.put, List.setIfInBounds_toArray, List.set_cons_succ, List.set_cons_zero]
            refine r_move_is rfl (.tmp 12) (.bool false) rfl rfl ?_
            simp only [Act.put, List.setIfInBounds_toArray, List.set_cons_succ, List.set_cons_zero]
            refine r_move_is rfl (.tmp 0) (.slice (some ad) l.length c) rfl rfl ?_
            simp only [Act.put, List.setIfInBounds_toArray, List.set_cons_succ, List.set_cons_zero]
            refine r_move_is rfl (.tmp 4) (.int .i64 (k : Int)) rfl rfl ?_
            simp only [Act.put, List.setIfInBounds_toArray, List.set_cons_succ, List.set_cons_zero]
            refine r_val rfl (fun w' hw' => run_at_T Try.underlying22 size29 (x := .tmp 14) (y := .tmp 15) (i := k) rfl rfl rfl HLT.out w') ?_
            simp only [Act.put, List.setIfInBounds_toArray, List.set_cons_succ, List.set_cons_zero]
            refine r_val rfl (fun w' hw' => run_fld29_0 (x := .tmp 16) rfl rfl w') ?_
            simp only [Act.put, List.setIfInBounds_toArray, List.set_cons_succ, List.set_cons_zero]
            refine r_val rfl (fun w' hw' => run_load_int (x := .tmp 17) rfl Try.underlying3 rfl (reads_cell HW.out hw' HLT.out).1) ?_
            simp only [Act.put, List.setIfInBounds_toArray, List.set_cons_succ, List.set_cons_zero]
            refine r_move_is rfl (.tmp 0) (.slice (some ad) l.length c) rfl rfl ?_
            simp only [Act.put, List.setIfInBounds_toArray, List.set_cons_succ, List.set_cons_zero]
            refine r_move_is rfl (.tmp 3) (.int .i64 (b : Int)) rfl rfl ?_
            simp only [Act.put, List.setIfInBounds_toArray, List.set_cons_succ, List.set_cons_zero]
            refine r_val rfl (fun w' hw' => run_at_T Try.underlying22 size29 (x := .tmp 19) (y := .tmp 20) (i := b) rfl rfl rfl HBL.out w') ?_
            simp only [Act.put, List.setIfInBounds_toArray, List.set_cons_succ, List.set_cons_zero]
            refine r_val rfl (fun w' hw' => run_fld29_0 (x := .tmp 21) rfl rfl w') ?_
            simp only [Act.put, List.setIfInBounds_toArray, List.set_cons_succ, List.set_cons_zero]
            refine r_val rfl (fun w' hw' => run_load_int (x := .tmp 22) rfl Try.underlying3 rfl (reads_cell HW.out hw' HBL.out).1) ?_
            simp only [Act.put, List.setIfInBounds_toArray, List.set_cons_succ, List.set_cons_zero]
            refine r_val rfl (fun w' hw' => run_lss_i (x := .tmp 18) (y := .tmp 23) rfl rfl rfl true E1.out w') ?_
            simp only [Act.put, List.setIfInBounds_toArray, List.set_cons_succ, List.set_cons_zero]
            refine r_val rfl (fun w' hw' => run_pick_is (c := .tmp 13) (a := .const (.bool true)) (b := .tmp 24) rfl (t := false) rfl (.bool true) rfl w') ?_
            simp only [Act.put, List.setIfInBounds_toArray, List.set_cons_succ, List.set_cons_zero]
            refine r_move_is rfl (.tmp 25) (.bool true) rfl rfl ?_
            simp only [Act.put, List.setIfInBounds_toArray, List.set_cons_succ, List.set_cons_zero]
            refine r_skip rfl ?_
            simp only [Act.put, List.setIfInBounds_toArray, List.set_cons_succ, List.set_cons_zero]
            refine r_skip rfl ?_
            simp only [Act.put, List.setIfInBounds_toArray, List.set_cons_succ, List.set_cons_zero]
            refine r_skip rfl ?_
            simp only [Act.put, List.setIfInBounds_toArray, List.set_cons_succ, List.set_cons_zero]
            refine r_skip rfl ?_
            simp only [Act.put, List.setIfInBounds_toArray, List.set_cons_succ, List.set_cons_zero]
            refine r_skip rfl ?_
            simp only [Act.put, List.setIfInBounds_toArray, List.set_cons_succ, List.set_cons_zero]
            refine r_skip rfl ?_
            simp only [Act.put, List.setIfInBounds_toArray, List.set_cons_succ, List.set_cons_zero]
            refine r_skip rfl ?_
            simp only [Act.put, List.setIfInBounds_toArray, List.set_cons_succ, List.set_cons_zero]
            refine r_skip rfl ?_
            simp only [Act.put, List.setIfInBounds_toArray, List.set_cons_succ, List.set_cons_zero]
            refine r_skip rfl ?_
            simp only [Act.put, List.setIfInBounds_toArray, List.set_cons_succ, List.set_cons_zero]
            refine r_skip rfl ?_
            simp only [Act.put, List.setIfInBounds_toArray, List.set_cons_succ, List.set_cons_zero]
            refine r_skip rfl ?_
            simp only [Act.put, List.setIfInBounds_toArray, List.set_cons_succ, List.set_cons_zero]
            refine r_skip rfl ?_
            simp only [Act.put, List.setIfInBounds_toArray, List.set_cons_succ, List.set_cons_zero]
            refine r_skip rfl ?_
            simp only [Act.put, List.setIfInBounds_toArray, List.set_cons_succ, List.set_cons_zero]
            refine r_skip rfl ?_
            simp only [Act.put, List.setIfInBounds_toArray, List.set_cons_succ, List.set_cons_zero]
            refine r_skip rfl ?_
            simp only [Act.put, List.setIfInBounds_toArray, List.set_cons_succ, List.set_cons_zero]
            refine r_skip rfl ?_
            simp only [Act.put, List.setIfInBounds_toArray, List.set_cons_succ, List.set_cons_zero]
            refine r_skip rfl ?_
            simp only [Act.put, List.setIfInBounds_toArray, List.set_cons_succ, List.set_cons_zero]
            refine r_skip rfl ?_
            simp only [Act.put, List.setIfInBounds_toArray, List.set_cons_succ, List.set_cons_zero]
            refine r_skip rfl ?_
            simp only [Act.put, List.setIfInBounds_toArray, List.set_cons_succ, List.set_cons_zero]
            refine r_skip rfl ?_
            simp only [Act.put, List.setIfInBounds_toArray, List.set_cons_succ, List.set_cons_zero]
            refine r_skip rfl ?_
            simp only [Act.put, List.setIfInBounds_toArray, List.set_cons_succ, List.set_cons_zero]
            refine r_skip rfl ?_
            simp only [Act.put, List.setIfInBounds_toArray, List.set_cons_succ, List.set_cons_zero]
            refine r_skip rfl ?_
            simp only [Act.put, List.setIfInBounds_toArray, List.set_cons_succ, List.set_cons_zero]
            refine r_skip rfl ?_
            simp only [Act.put, List.setIfInBounds_toArray, List.set_cons_succ, List.set_cons_zero]
            refine r_val rfl (fun w' hw' => run_pick_is (c := .tmp 26) (a := .const (.bool true)) (b := .tmp 50) rfl (t := true) rfl (.bool true) rfl w') ?_
            simp only [Act.put, List.setIfInBounds_toArray, List.set_cons_succ, List.set_cons_zero]
            refine r_nil ?_
            intro w5 hw2
            go_wp2_with fail
            go_meet
            exact ⟨⟨true, rfl, fun _ => KF.out, fun h => (by cases h)⟩, Lib.hid hw2⟩
          · have E1 := Lib.hid (decide_eq_false e1)
            by_cases e2 : (at_ l k).1 = (at_ l b).1
            · have E2 := Lib.hid (decide_eq_true e2)
              obtain ⟨t, ht⟩ : ∃ t, decide ((at_ l k).2 < (at_ l b).2) = t := ⟨_, rfl⟩
              have E3 := Lib.hid ht
              have HT := Lib.hid (show less (at_ l k) (at_ l b) = t by unfold less; rw [if_pos e2, ht])
              clear e1 e2 ht hlt
              refine r_region (fun w' => Below wr.heap.size wr w') (by kernel_rfl) (by kernel_rfl) (Below.refl _ _).drew ?_
              refine r_move_is rfl (.tmp 3) (.int .i64 (b : Int)) rfl rfl ?_
              simp only [Act.put, List.setIfInBounds_toArray, List.set_cons_succ, List.set_cons_zero]
              refine r_val rfl (fun w' hw' => run_lss_i (x := .tmp 11) (y := .const (.int .i64 0)) rfl rfl rfl false B0.out w') ?_
              simp only [Act.put, List.setIfInBounds_toArray, List.set_cons_succ, List.set_cons_zero]
              refine r_move_is rfl (.tmp 12) (.bool false) rfl rfl ?_
              simp only [Act.put, List.setIfInBounds_toArray, List.set_cons_succ, List.set_cons_zero]
              refine r_move_is rfl (.tmp 0) (.slice (some ad) l.length c) rfl rfl ?_
              simp only [Act.put, List.setIfInBounds_toArray, List.set_cons_succ, List.set_cons_zero]
              refine r_move_is rfl (.tmp 4) (.int .i64 (k : Int)) rfl rfl ?_
              simp only [Act.put, List.setIfInBounds_toArray, List.set_cons_succ, List.set_cons_zero]
              refine r_val rfl (fun w' hw' => run_at_T Try.underlying22 size29 (x := .tmp 14) (y := .tmp 15) (i := k) rfl rfl rfl HLT.out w') ?_
              simp only [Act.put, List.setIfInBounds_toArray, List.set_cons_succ, List.set_cons_zero]
              refine r_val rfl (fun w' hw' => run_fld29_0 (x := .tmp 16) rfl rfl w') ?_
              simp only [Act.put, List.setIfInBounds_toArray, List.set_cons_succ, List.set_cons_zero]
              refine r_val rfl (fun w' hw' => run_load_int (x := .tmp 17) rfl Try.underlying3 rfl (reads_cell HW.out hw' HLT.out).1) ?_
              simp only [Act.put, List.setIfInBounds_toArray, List.set_cons_succ, List.set_cons_zero]
              refine r_move_is rfl (.tmp 0) (.slice (some ad) l.length c) rfl rfl ?_
              simp only [Act.put, List.setIfInBounds_toArray, List.set_cons_succ, List.set_cons_zero]
              refine r_move_is rfl (.tmp 3) (.int .i64 (b : Int)) rfl rfl ?_
              simp only [Act.put, List.setIfInBounds_toArray, List.set_cons_succ, List.set_cons_zero]
              refine r_val rfl (fun w' hw' => run_at_T Try.underlying22 size29 (x := .tmp 19) (y := .tmp 20) (i := b) rfl rfl rfl HBL.out w') ?_
              simp only [Act.put, List.setIfInBounds_toArray, List.set_cons_succ, List.set_cons_zero]
              refine r_val rfl (fun w' hw' => run_fld29_0 (x := .tmp 21) rfl rfl w') ?_
              simp only [Act.put, List.setIfInBounds_toArray, List.set_cons_succ, List.set_cons_zero]
              refine r_val rfl (fun w' hw' => run_load_int (x := .tmp 22) rfl Try.underlying3 rfl (reads_cell HW.out hw' HBL.out).1) ?_
              simp only [Act.put, List.setIfInBounds_toArray, List.set_cons_succ, List.set_cons_zero]
              refine r_val rfl (fun w' hw' => run_lss_i (x := .tmp 18) (y := .tmp 23) rfl rfl rfl false E1.out w') ?_
              simp only [Act.put, List.setIfInBounds_toArray, List.set_cons_succ, List.set_cons_zero]
              refine r_val rfl (fun w' hw' => run_pick_is (c := .tmp 13) (a := .const (.bool true)) (b := .tmp 24) rfl (t := false) rfl (.bool false) rfl w') ?_
              simp only [Act.put, List.setIfInBounds_toArray, List.set_cons_succ, List.set_cons_zero]
              refine r_move_is rfl (.tmp 25) (.bool false) rfl rfl ?_
              simp only [Act.put, List.setIfInBounds_toArray, List.set_cons_succ, List.set_cons_zero]
              refine r_move_is rfl (.tmp 0) (.slice (some ad) l.length c) rfl rfl ?_
              simp only [Act.put, List.setIfInBounds_toArray, List.set_cons_succ, List.set_cons_zero]
              refine r_move_is rfl (.tmp 4) (.int .i64 (k : Int)) rfl rfl ?_
              simp only [Act.put, List.setIfInBounds_toArray, List.set_cons_succ, List.set_cons_zero]
              refine r_val rfl (fun w' hw' => run_at_T Try.underlying22 size29 (x := .tmp 27) (y := .tmp 28) (i := k) rfl rfl rfl HLT.out w') ?_
              simp only [Act.put, List.setIfInBounds_toArray, List.set_cons_succ, List.set_cons_zero]
              refine r_val rfl (fun w' hw' => run_fld29_0 (x := .tmp 29) rfl rfl w') ?_
              simp only [Act.put, List.setIfInBounds_toArray, List.set_cons_succ, List.set_cons_zero]
              refine r_val rfl (fun w' hw' => run_load_int (x := .tmp 30) rfl Try.underlying3 rfl (reads_cell HW.out hw' HLT.out).1) ?_
              simp only [Act.put, List.setIfInBounds_toArray, List.set_cons_succ, List.set_cons_zero]
              refine r_move_is rfl (.tmp 0) (.slice (some ad) l.length c) rfl rfl ?_
              simp only [Act.put, List.setIfInBounds_toArray, List.set_cons_succ, List.set_cons_zero]
              refine r_move_is rfl (.tmp 3) (.int .i64 (b : Int)) rfl rfl ?_
              simp only [Act.put, List.setIfInBounds_toArray, List.set_cons_succ, List.set_cons_zero]
              refine r_val rfl (fun w' hw' => run_at_T Try.underlying22 size29 (x := .tmp 32) (y := .tmp 33) (i := b) rfl rfl rfl HBL.out w') ?_
              simp only [Act.put, List.setIfInBounds_toArray, List.set_cons_succ, List.set_cons_zero]
              refine r_val rfl (fun w' hw' => run_fld29_0 (x := .tmp 34) rfl rfl w') ?_
              simp only [Act.put, List.setIfInBounds_toArray, List.set_cons_succ, List.set_cons_zero]
              refine r_val rfl (fun w' hw' => run_load_int (x := .tmp 35) rfl Try.underlying3 rfl (reads_cell HW.out hw' HBL.out).1) ?_
              simp only [Act.put, List.setIfInBounds_toArray, List.set_cons_succ, List.set_cons_zero]
              refine r_val rfl (fun w' hw' => run_eql_i (x := .tmp 31) (y := .tmp 36) rfl rfl rfl true E2.out w') ?_
              simp only [Act.put, List.setIfInBounds_toArray, List.set_cons_succ, List.set_cons_zero]
              refine r_move_is rfl (.tmp 37) (.bool true) rfl rfl ?_
              simp only [Act.put, List.setIfInBounds_toArray, List.set_cons_succ, List.set_cons_zero]
              refine r_move_is rfl (.tmp 0) (.slice (some ad) l.length c) rfl rfl ?_
              simp only [Act.put, List.setIfInBounds_toArray, List.set_cons_succ, List.set_cons_zero]
              refine r_move_is rfl (.tmp 4) (.int .i64 (k : Int)) rfl rfl ?_
              simp only [Act.put, List.setIfInBounds_toArray, List.set_cons_succ, List.set_cons_zero]
              refine r_val rfl (fun w' hw' => run_at_T Try.underlying22 size29 (x := .tmp 39) (y := .tmp 40) (i := k) rfl rfl rfl HLT.out w') ?_
              simp only [Act.put, List.setIfInBounds_toArray, List.set_cons_succ, List.set_cons_zero]
              refine r_val rfl (fun w' hw' => run_fld29_1 (x := .tmp 41) rfl rfl w') ?_
              simp only [Act.put, List.setIfInBounds_toArray, List.set_cons_succ, List.set_cons_zero]
              refine r_val rfl (fun w' hw' => run_load_int (x := .tmp 42) rfl Try.underlying3 rfl (reads_cell HW.out hw' HLT.out).2) ?_
              simp only [Act.put, List.setIfInBounds_toArray, List.set_cons_succ, List.set_cons_zero]
              refine r_move_is rfl (.tmp 0) (.slice (some ad) l.length c) rfl rfl ?_
              simp only [Act.put, List.setIfInBounds_toArray, List.set_cons_succ, List.set_cons_zero]
              refine r_move_is rfl (.tmp 3) (.int .i64 (b : Int)) rfl rfl ?_
              simp only [Act.put, List.setIfInBounds_toArray, List.set_cons_succ, List.set_cons_zero]
              refine r_val rfl (fun w' hw' => run_at_T Try.underlying22 size29 (x := .tmp 44) (y := .tmp 45) (i := b) rfl rfl rfl HBL.out w') ?_
              simp only [Act.put, List.setIfInBounds_toArray, List.set_cons_succ, List.set_cons_zero]
              refine r_val rfl (fun w' hw' => run_fld29_1 (x := .tmp 46) rfl rfl w') ?_
              simp only [Act.put, List.setIfInBounds_toArray, List.set_cons_succ, List.set_cons_zero]
              refine r_val rfl (fun w' hw' => run_load_int (x := .tmp 47) rfl Try.underlying3 rfl (reads_cell HW.out hw' HBL.out).2) ?_
              simp only [Act.put, List.setIfInBounds_toArray, List.set_cons_succ, List.set_cons_zero]
              refine r_val rfl (fun w' hw' => run_lss_i (x := .tmp 43) (y := .tmp 48) rfl rfl rfl t E3.out w') ?_
              simp only [Act.put, List.setIfInBounds_toArray, List.set_cons_succ, List.set_cons_zero]
              refine r_val rfl (fun w' hw' => run_pick_is (c := .tmp 38) (a := .tmp 49) (b := .const (.bool false)) rfl (t := true) rfl (.bool t) rfl w') ?_
              simp only [Act.put, List.setIfInBounds_toArray, List.set_cons_succ, List.set_cons_zero]
              refine r_val rfl (fun w' hw' => run_pick_is (c := .tmp 26) (a := .const (.bool true)) (b := .tmp 50) rfl (t := false) rfl (.bool t) rfl w') ?_
              simp only [Act.put, List.setIfInBounds_toArray, List.set_cons_succ, List.set_cons_zero]
              refine r_nil ?_
              intro w5 hw2
              go_wp2_with fail
              go_meet
              exact ⟨⟨t, rfl, fun h => NX.out.1 (HT.out.trans h), fun h => NX.out.2 (HT.out.trans h)⟩, Lib.hid hw2⟩
            · have E2 := Lib.hid (decide_eq_false e2)
              have KF := Lib.hid (NX.out.2 ((less_not _ _).2 (by omega)))
              clear e1 e2 hlt
              refine r_region (fun w' => Below wr.heap.size wr w') (by kernel_rfl) (by kernel_rfl) (Below.refl _ _).drew ?_
              refine r_move_is rfl (.tmp 3) (.int .i64 (b : Int)) rfl rfl ?_
              simp only [Act.put, List.setIfInBounds_toArray, List.set_cons_succ, List.set_cons_zero]
              refine r_val rfl (fun w' hw' => run_lss_i (x := .tmp 11) (y := .const (.int .i64 0)) rfl rfl rfl false B0.out w') ?_
              simp only [Act.put, List.setIfInBounds_toArray, List.set_cons_succ, List.set_cons_zero]
              refine r_move_is rfl (.tmp 12) (.bool false) rfl rfl ?_
              simp only [Act.put, List.setIfInBounds_toArray, List.set_cons_succ, List.set_cons_zero]
              refine r_move_is rfl (.tmp 0) (.slice (some ad) l.length c) rfl rfl ?_
              simp only [Act.put, List.setIfInBounds_toArray, List.set_cons_succ, List.set_cons_zero]
              refine r_move_is rfl (.tmp 4) (.int .i64 (k : Int)) rfl rfl ?_
              simp only [Act.put, List.setIfInBounds_toArray, List.set_cons_succ, List.set_cons_zero]
              refine r_val rfl (fun w' hw' => run_at_T Try.underlying22 size29 (x := .tmp 14) (y := .tmp 15) (i := k) rfl rfl rfl HLT.out w') ?_
              simp only [Act.put, List.setIfInBounds_toArray, List.set_cons_succ, List.set_cons_zero]
              refine r_val rfl (fun w' hw' => run_fld29_0 (x := .tmp 16) rfl rfl w') ?_
              simp only [Act.put, List.setIfInBounds_toArray, List.set_cons_succ, List.set_cons_zero]
              refine r_val rfl (fun w' hw' => run_load_int (x := .tmp 17) rfl Try.underlying3 rfl (reads_cell HW.out hw' HLT.out).1) ?_
              simp only [Act.put, List.setIfInBounds_toArray, List.set_cons_succ, List.set_cons_zero]
              refine r_move_is rfl (.tmp 0) (.slice (some ad) l.length c) rfl rfl ?_
              simp only [Act.put, List.setIfInBounds_toArray, List.set_cons_succ, List.set_cons_zero]
              refine r_move_is rfl (.tmp 3) (.int .i64 (b : Int)) rfl rfl ?_
              simp only [Act.put, List.setIfInBounds_toArray, List.set_cons_succ, List.set_cons_zero]
              refine r_val rfl (fun w' hw' => run_at_T Try.underlying22 size29 (x := .tmp 19) (y := .tmp 20) (i := b) rfl rfl rfl HBL.out w') ?_
              simp only [Act.put, List.setIfInBounds_toArray, List.set_cons_succ, List.set_cons_zero]
              refine r_val rfl (fun w' hw' => run_fld29_0 (x := .tmp 21) rfl rfl w') ?_
              simp only [Act.put, List.setIfInBounds_toArray, List.set_cons_succ, List.set_cons_zero]
              refine r_val rfl (fun w' hw' => run_load_int (x := .tmp 22) rfl Try.underlying3 rfl (reads_cell HW.out hw' HBL.out).1) ?_
              simp only [Act.put, List.setIfInBounds_toArray, List.set_cons_succ, List.set_cons_zero]
              refine r_val rfl (fun w' hw' => run_lss_i (x := .tmp 18) (y := .tmp 23) rfl rfl rfl false E1.out w') ?_
              simp only [Act.put, List.setIfInBounds_toArray, List.set_cons_succ, List.set_cons_zero]
              refine r_val rfl (fun w' hw' => run_pick_is (c := .tmp 13) (a := .const (.bool true)) (b := .tmp 24) rfl (t := false) rfl (.bool false) rfl w') ?_
              simp only [Act.put, List.setIfInBounds_toArray, List.set_cons_succ, List.set_cons_zero]
              refine r_move_is rfl (.tmp 25) (.bool false) rfl rfl ?_
              simp only [Act.put, List.setIfInBounds_toArray, List.set_cons_succ, List.set_cons_zero]
              refine r_move_is rfl (.tmp 0) (.slice (some ad) l.length c) rfl rfl ?_
              simp only [Act.put, List.setIfInBounds_toArray, List.set_cons_succ, List.set_cons_zero]
              refine r_move_is rfl (.tmp 4) (.int .i64 (k : Int)) rfl rfl ?_
              simp only [Act.put, List.setIfInBounds_toArray, List.set_cons_succ, List.set_cons_zero]
              refine r_val rfl (fun w' hw' => run_at_T Try.underlying22 size29 (x := .tmp 27) (y := .tmp 28) (i := k) rfl rfl rfl HLT.out w') ?_
              simp only [Act.put, List.setIfInBounds_toArray, List.set_cons_succ, List.set_cons_zero]
              refine r_val rfl (fun w' hw' => run_fld29_0 (x := .tmp 29) rfl rfl w') ?_
              simp only [Act.put, List.setIfInBounds_toArray, List.set_cons_succ, List.set_cons_zero]
              refine r_val rfl (fun w' hw' => run_load_int (x := .tmp 30) rfl Try.underlying3 rfl (reads_cell HW.out hw' HLT.out).1) ?_
              simp only [Act.put, List.setIfInBounds_toArray, List.set_cons_succ, List.set_cons_zero]
              refine r_move_is rfl (.tmp 0) (.slice (some ad) l.length c) rfl rfl ?_
              simp only [Act.put, List.setIfInBounds_toArray, List.set_cons_succ, List.set_cons_zero]
              refine r_move_is rfl (.tmp 3) (.int .i64 (b : Int)) rfl rfl ?_
              simp only [Act.put, List.setIfInBounds_toArray, List.set_cons_succ, List.set_cons_zero]
              refine r_val rfl (fun w' hw' => run_at_T Try.underlying22 size29 (x := .tmp 32) (y := .tmp 33) (i := b) rfl rfl rfl HBL.out w') ?_
              simp only [Act.put, List.setIfInBounds_toArray, List.set_cons_succ, List.set_cons_zero]
              refine r_val rfl (fun w' hw' => run_fld29_0 (x := .tmp 34) rfl rfl w') ?_
              simp only [Act.put, List.setIfInBounds_toArray, List.set_cons_succ, List.set_cons_zero]
              refine r_val rfl (fun w' hw' => run_load_int (x := .tmp 35) rfl Try.underlying3 rfl (reads_cell HW.out hw' HBL.out).1) ?_
              simp only [Act.put, List.setIfInBounds_toArray, List.set_cons_succ, List.set_cons_zero]
              refine r_val rfl (fun w' hw' => run_eql_i (x := .tmp 31) (y := .tmp 36) rfl rfl rfl false E2.out w') ?_
              simp only [Act.put, List.setIfInBounds_toArray, List.set_cons_succ, List.set_cons_zero]
              refine r_move_is rfl (.tmp 37) (.bool false) rfl rfl ?_
              simp only [Act.put, List.setIfInBounds_toArray, List.set_cons_succ, List.set_cons_zero]
              refine r_skip rfl ?_
              simp only [Act.put, List.setIfInBounds_toArray, List.set_cons_succ, List.set_cons_zero]
              refine r_skip rfl ?_
              simp only [Act.put, List.setIfInBounds_toArray, List.set_cons_succ, List.set_cons_zero]
              refine r_skip rfl ?_
              simp only [Act.put, List.setIfInBounds_toArray, List.set_cons_succ, List.set_cons_zero]
              refine r_skip rfl ?_
              simp only [Act.put, List.setIfInBounds_toArray, List.set_cons_succ, List.set_cons_zero]
              refine r_skip rfl ?_
              simp only [Act.put, List.setIfInBounds_toArray, List.set_cons_succ, List.set_cons_zero]
              refine r_skip rfl ?_
              simp only [Act.put, List.setIfInBounds_toArray, List.set_cons_succ, List.set_cons_zero]
              refine r_skip rfl ?_
              simp only [Act.put, List.setIfInBounds_toArray, List.set_cons_succ, List.set_cons_zero]
              refine r_skip rfl ?_
              simp only [Act.put, List.setIfInBounds_toArray, List.set_cons_succ, List.set_cons_zero]
              refine r_skip rfl ?_
              simp only [Act.put, List.setIfInBounds_toArray, List.set_cons_succ, List.set_cons_zero]
              refine r_skip rfl ?_
              simp only [Act.put, List.setIfInBounds_toArray, List.set_cons_succ, List.set_cons_zero]
              refine r_skip rfl ?_
              simp only [Act.put, List.setIfInBounds_toArray, List.set_cons_succ, List.set_cons_zero]
              refine r_val rfl (fun w' hw' => run_pick_is (c := .tmp 38) (a := .tmp 49) (b := .const (.bool false)) rfl (t := false) rfl (.bool false) rfl w') ?_
              simp only [Act.put, List.setIfInBounds_toArray, List.set_cons_succ, List.set_cons_zero]
              refine r_val rfl (fun w' hw' => run_pick_is (c := .tmp 26) (a := .const (.bool true)) (b := .tmp 50) rfl (t := false) rfl (.bool false) rfl w') ?_
              simp only [Act.put, List.setIfInBounds_toArray, List.set_cons_succ, List.set_cons_zero]
              refine r_nil ?_
              intro w5 hw2
              go_wp2_with fail
              go_meet
              exact ⟨⟨false, rfl, fun h => (by cases h), fun _ => KF.out⟩, Lib.hid hw2⟩
      case rest =>
        obtain ⟨⟨t, rfl, ht, hf⟩, hw5⟩ := hcut
        have HT := Lib.hid ht
        have HF := Lib.hid hf
        clear ht hf hlt
        cases t
        · go_wp2_with fail
          go_roundw
          case rel => exact ⟨k + 1, bi, by go_num, rfl, HLT.out, HF.out rfl, B.out.trans (hw5.out.mono B.out.size)⟩
          case measure => have := HLT.out; simp [intOf]; omega
        · go_wp2_with fail
          go_roundw
          case rel => exact ⟨k + 1, k, by go_num, rfl, HLT.out, HT.out rfl, B.out.trans (hw5.out.mono B.out.size)⟩
          case measure => have := HLT.out; simp [intOf]; omega
    · have hkl : k = l.length := by omega
      go_wp2_with fail
      go_ret
      exact ⟨bi, rfl, hkl ▸ HL.out, B.out⟩
end Go.Proofs.Ytcmbmocineegoaa
