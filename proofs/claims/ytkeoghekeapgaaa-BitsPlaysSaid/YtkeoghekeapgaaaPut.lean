/-
  Sets put together have what either has: BitsSets answers true at every two sets of thirty bytes, and writes nothing that was there.
  Conditions: none.
-/
import Derived.Test.YtkeoghekeapgaaaBack
namespace Go.Proofs.Ytkeoghekeapgaaa
open Go.ChangeShapes Go.WideShapes Go.ChangeAt Go.RowKit

theorem class_has_is {B : Nat} {W w : World} (hB : B ≤ W.heap.size) (h : Below B W w) {ns : List Nat} (n : Int) (hs : Set30 ns) (r : Bool) (hr : hasP ns n = r) : Calls Try.prog 11 #[.agg (Bv ns), .int .i64 n] w fun e w'' => e = .returned (.bool r) ∧ Below B W w'' := by
  rw [← hr]; exact class_has hB h n hs
theorem class_both {B : Nat} {W w : World} (hB : B ≤ W.heap.size) (h : Below B W w) {s t : List Nat} (hs : Set30 s) (ht : Set30 t) : Calls Try.prog 17 #[.agg (Bv s), .agg (Bv t)] w fun e w'' => e = .returned (.agg (Bv (bothP s t))) ∧ Below B W w'' :=
  (both_any s t hs ht w).mono fun _ _ ⟨he, hb⟩ => ⟨he, h.trans (hb.mono (Nat.le_trans hB h.size))⟩

/-- How many of the numbers below k are in both. -/
def inter (s t : List Nat) : Nat → Nat
  | 0 => 0
  | k + 1 => inter s t k + if mem t k && mem s k then 1 else 0
theorem inter_le (s t : List Nat) (k : Nat) : inter s t k ≤ k := by
  induction k with
  | zero => exact Nat.le_refl _
  | succ k ih => unfold inter; split <;> omega
theorem cnt_both {s t : List Nat} (hs : Set30 s) (ht : Set30 t) (k : Nat) (hk : k ≤ 240) : cnt (bothP s t) k + inter s t k = cnt s k + cnt t k := by
  induction k with
  | zero => rfl
  | succ k ih =>
    have := ih (by omega)
    unfold inter
    rw [cnt_succ, cnt_succ, cnt_succ, mem_both hs ht k (by omega)]
    cases mem s k <;> cases mem t k <;> simp <;> omega
/-- v is u without those of t that are below k. -/
def Less (u t v : List Nat) (k : Nat) : Prop := ∀ j, j < 240 → mem v j = (mem u j && !(decide (j < k) && mem t j))
theorem cnt_less {s t v : List Nat} (hs : Set30 s) (ht : Set30 t) (h : Less (bothP s t) t v 240) (k : Nat) (hk : k ≤ 240) : cnt v k + cnt t k = cnt (bothP s t) k := by
  induction k with
  | zero => rfl
  | succ k ih =>
    have := ih (by omega)
    have h1 := h k (by omega)
    rw [mem_both hs ht k (by omega)] at h1
    rw [cnt_succ, cnt_succ, cnt_succ, h1, mem_both hs ht k (by omega)]
    have h2 : decide (k < 240) = true := decide_eq_true (by omega)
    rw [h2]
    cases mem s k <;> cases mem t k <;> simp <;> omega
theorem both_comm {s t : List Nat} (hs : Set30 s) (ht : Set30 t) : bothP t s = bothP s t :=
  (ht.both hs).ext (hs.both ht) fun i hi => by rw [mem_both hs ht i hi, mem_both ht hs i hi, Bool.or_comm]
theorem both_self {s : List Nat} (hs : Set30 s) : bothP s s = s :=
  (hs.both hs).ext hs fun i hi => by rw [mem_both hs hs i hi, Bool.or_self]
theorem less_start (u t : List Nat) : Less u t u 0 := fun j _ => by simp
theorem less_in {u t v : List Nat} (hv : Set30 v) {k : Nat} (hk : k < 240) (h : Less u t v k) (hm : mem t k = true) : Less u t (withoutP v (k : Int)) (k + 1) := by
  intro j hj
  rw [mem_without hv hj, inB_nat hk, Bool.true_and, Int.toNat_natCast, h j hj]
  by_cases e : j = k
  · subst e; simp [hm]
  · have e2 : decide (j < k + 1) = decide (j < k) := decide_eq_decide.2 (by omega)
    simp [e, e2]
theorem less_out {u t v : List Nat} {k : Nat} (h : Less u t v k) (hm : mem t k = false) : Less u t v (k + 1) := by
  intro j hj
  rw [h j hj]
  by_cases e : j = k
  · subst e; simp [hm]
  · have e2 : decide (j < k + 1) = decide (j < k) := decide_eq_decide.2 (by omega)
    simp [e2]

set_option maxRecDepth 100000 in
set_option maxHeartbeats 4000000 in
theorem walk_bitsSets (s : List Nat) (hs : Set30 s) (t : List Nat) (ht : Set30 t) (w : World) :
    Calls Try.prog 7 #[.agg (Bv s), .agg (Bv t)] w fun e w' => e = .returned (.bool true) ∧ Below w.heap.size w w' := by
  have hu := hs.both ht
  have KB := Lib.hid (((Below.refl w.heap.size w).alloc (Nat.le_refl _) (.cells (Bv s) 22)).alloc (by simp) (.cells (Bv t) 22))
  have A2 := Lib.hid (show ((w.alloc (.cells (Bv s) 22)).alloc (.cells (Bv t) 22)).heap[w.heap.size]? = _ from heap_alloc2_old w _ _)
  have A3 := Lib.hid (show ((w.alloc (.cells (Bv s) 22)).alloc (.cells (Bv t) 22)).heap[w.heap.size + 1]? = _ from heap_alloc2_new w _ _)
  go_enter Try.func7, Try.ntmps7
  go_wp2_with fail
  refine (awake_any _).mono ?_
  rintro e w1 ⟨rfl, hb1⟩
  have B2 := Lib.hid (row_later hb1 A2.out (row_lt A2.out))
  have B3 := Lib.hid (row_later hb1 A3.out (row_lt A3.out))
  have KB1 := Lib.hid (KB.out.trans (hb1.mono KB.out.size))
  clear hb1
  go_wp2_with (first | (refine load_set rfl (.tmp 2) 22 rfl w.heap.size rfl 22 s hs 5 Try.underlying22 size22 ?_ ?_) | (refine load_set rfl (.tmp 3) 22 rfl (w.heap.size + 1) rfl 22 t ht 5 Try.underlying22 size22 ?_ ?_))
  · exact B2.out
  · exact B3.out
  refine (both_any s t hs ht _).mono ?_
  rintro e w2 ⟨rfl, hb2⟩
  have C2 := Lib.hid (row_later hb2 B2.out (row_lt B2.out))
  have C3 := Lib.hid (row_later hb2 B3.out (row_lt B3.out))
  have KB2 := Lib.hid (KB1.out.trans (hb2.mono KB1.out.size))
  have KS2 := Lib.hid KB2.out.size
  clear hb2
  have D5 := Lib.hid (show ((w2.alloc (.cells (Bv (bothP s t)) 28)).alloc (.cells (Bv (bothP s t)) 28)).heap[w2.heap.size]? = _ from heap_alloc2_old w2 _ _)
  have D6 := Lib.hid (show ((w2.alloc (.cells (Bv (bothP s t)) 28)).alloc (.cells (Bv (bothP s t)) 28)).heap[w2.heap.size + 1]? = _ from heap_alloc2_new w2 _ _)
  have D2 := Lib.hid (show ((w2.alloc (.cells (Bv (bothP s t)) 28)).alloc (.cells (Bv (bothP s t)) 28)).heap[w.heap.size]? = _ from (Go.heap_alloc_old _ _ (by have := row_lt C2.out; simp; omega)).trans ((Go.heap_alloc_old _ _ (row_lt C2.out)).trans C2.out))
  have D3 := Lib.hid (show ((w2.alloc (.cells (Bv (bothP s t)) 28)).alloc (.cells (Bv (bothP s t)) 28)).heap[w.heap.size + 1]? = _ from (Go.heap_alloc_old _ _ (by have := row_lt C3.out; simp; omega)).trans ((Go.heap_alloc_old _ _ (row_lt C3.out)).trans C3.out))
  have DB := Lib.hid ((KB2.out.alloc KS2.out (.cells (Bv (bothP s t)) 28)).alloc (by have := KS2.out; simp; omega) (.cells (Bv (bothP s t)) 28))
  have N5 := Lib.hid (heap_alloc_new w2 (.cells (Bv (bothP s t)) 28))
  have G23 := Lib.hid (row_lt C3.out)
  go_wp2_with (first | (refine store_new rfl (.tmp 5) (.tmp 13) 28 rfl (bothP s t) rfl rfl hu 28 _ size28 rfl ?_) | (refine load_set rfl (.tmp 5) 28 rfl w2.heap.size rfl 28 (bothP s t) hu 5 Try.underlying28 size28 ?_ ?_) | (refine store_new rfl (.tmp 6) (.tmp 14) 28 rfl (bothP s t) (by simp [go_sem]) rfl hu 28 _ size28 rfl ?_))
  · exact N5.out
  go_loopw [7, 8] (fun nv i wr => ∃ (k : Nat) (v : List Nat), k ≤ 240 ∧ i = .int .i64 k ∧ nv = .int .i64 (inter s t k : Int) ∧ Set30 v ∧ Less (bothP s t) t v k ∧ wr.heap[w.heap.size]? = some (.cells (Bv s) 22 (0, 0)) ∧ wr.heap[w.heap.size + 1]? = some (.cells (Bv t) 22 (0, 0))
      ∧ wr.heap[w2.heap.size]? = some (.cells (Bv (bothP s t)) 28 (0, 0)) ∧ wr.heap[w2.heap.size + 1]? = some (.cells (Bv v) 28 (0, 0)) ∧ Below w.heap.size w wr) (fun _ i _ => 240 - (intOf i).toNat)
  case atStart => exact ⟨0, bothP s t, by omega, rfl, rfl, hu, less_start _ _, D2.out, D3.out, D5.out, D6.out, DB.out⟩
  case round =>
    obtain ⟨k, v, hk, rfl, rfl, hv, hless, hr2, hr3, hr5, hr6, hB⟩ := hrel
    have R2 := Lib.hid hr2
    have R3 := Lib.hid hr3
    have R5 := Lib.hid hr5
    have R6 := Lib.hid hr6
    have RB := Lib.hid hB
    have RS := Lib.hid hB.size
    have RL := Lib.hid hless
    have hil := inter_le s t k
    clear hr2 hr3 hr5 hr6 hB hless
    by_cases hlt : k < 240
    · cases hmt : mem t k with
      | true =>
        cases hms : mem s k with
        | true =>
          have HT := Lib.hid (show hasP t (k : Int) = true by rw [hasP_nat hlt]; exact hmt)
          have HS := Lib.hid (show hasP s (k : Int) = true by rw [hasP_nat hlt]; exact hms)
          have HU := Lib.hid (show hasP (bothP s t) (k : Int) = true by rw [hasP_nat hlt, mem_both hs ht k hlt, hmt, hms]; rfl)
          have HI := Lib.hid (show inter s t (k + 1) = inter s t k + 1 by rw [inter, hmt, hms]; rfl)
          have HL := Lib.hid (less_in hv hlt RL.out hmt)
          have hv2 := hv.without (k : Int)
          clear hmt hms
          go_wp2_with (refine load_set rfl (.tmp 3) 22 rfl (w.heap.size + 1) rfl 22 t ht 5 Try.underlying22 size22 ?_ ?_)
          · exact R3.out
          have hcall := has_any t (k : Int) wr ht
          rw [HT.out] at hcall
          refine hcall.mono ?_
          clear hcall
          rintro e w3 ⟨rfl, hb3⟩
          have R2 := Lib.hid (row_later hb3 R2.out (row_lt R2.out))
          have R3 := Lib.hid (row_later hb3 R3.out (row_lt R3.out))
          have R5 := Lib.hid (row_later hb3 R5.out (row_lt R5.out))
          have R6 := Lib.hid (row_later hb3 R6.out (row_lt R6.out))
          have RB := Lib.hid (RB.out.trans (hb3.mono RS.out))
          have RS := Lib.hid RB.out.size
          clear hb3
          go_wp2_with (refine load_set rfl (.tmp 6) 28 rfl (w2.heap.size + 1) rfl 28 v hv 5 Try.underlying28 size28 ?_ ?_)
          · exact R6.out
          refine (without_any v (k : Int) _ hv).mono ?_
          rintro e w4 ⟨rfl, hb4⟩
          have R2 := Lib.hid (row_later hb4 R2.out (row_lt R2.out))
          have R3 := Lib.hid (row_later hb4 R3.out (row_lt R3.out))
          have R5 := Lib.hid (row_later hb4 R5.out (row_lt R5.out))
          have R6 := Lib.hid (row_later hb4 R6.out (row_lt R6.out))
          have RB := Lib.hid (RB.out.trans (hb4.mono RS.out))
          clear hb4
          have M2 := Lib.hid (show (w4.setRow (w2.heap.size + 1) (Bv (withoutP v (k : Int)))).heap[w.heap.size]? = _ from (setRow_other _ _ _ _ (by have := KS2.out; omega)).trans R2.out)
          have M3 := Lib.hid (show (w4.setRow (w2.heap.size + 1) (Bv (withoutP v (k : Int)))).heap[w.heap.size + 1]? = _ from (setRow_other _ _ _ _ (by have := G23.out; omega)).trans R3.out)
          have M5 := Lib.hid (show (w4.setRow (w2.heap.size + 1) (Bv (withoutP v (k : Int)))).heap[w2.heap.size]? = _ from (setRow_other _ _ _ _ (by omega)).trans R5.out)
          have M6 := Lib.hid (setRow_heap w4 _ _ (Bv (withoutP v (k : Int))) _ _ R6.out)
          have MB := Lib.hid (below_setRow RB.out (g := w2.heap.size + 1) (by have := KS2.out; omega) (Bv (withoutP v (k : Int))))
          have MS := Lib.hid MB.out.size
          have SZ := Lib.hid (show (Bv v).size = 30 by rw [Bv_size]; exact hv.len)
          go_wp2_with (first | (refine store_set rfl (.tmp 6) (.tmp 24) 28 rfl (w2.heap.size + 1) (withoutP v (k : Int)) rfl rfl hv2 28 (Bv v) size28 SZ.out ?_ ?_) | (refine load_set rfl (.tmp 2) 22 rfl w.heap.size rfl 22 s hs 5 Try.underlying22 size22 ?_ ?_))
          · exact R6.out
          · exact M2.out
          have hcall := has_any s (k : Int) (w4.setRow (w2.heap.size + 1) (Bv (withoutP v (k : Int)))) hs
          rw [HS.out] at hcall
          refine hcall.mono ?_
          clear hcall
          rintro e W ⟨rfl, hb5⟩
          have R2 := Lib.hid (row_later hb5 M2.out (row_lt M2.out))
          have R3 := Lib.hid (row_later hb5 M3.out (row_lt M3.out))
          have R5 := Lib.hid (row_later hb5 M5.out (row_lt M5.out))
          have R6 := Lib.hid (row_later hb5 M6.out (row_lt M6.out))
          have RB := Lib.hid (MB.out.trans (hb5.mono MS.out))
          have RS := Lib.hid RB.out.size
          clear hb5
          go_wp2_with fail
          refine region_class (fun w' => Below W.heap.size W w') (by kernel_rfl) (by kernel_rfl) (Below.refl _ _).drew ?_
          refine q_val rfl (fun w' hw' => run_load_set 28 (x := .tmp 5) rfl rfl hu Try.underlying28 size28 (row_in hw' R5.out)) ?_
          simp only [Act.put, List.setIfInBounds_toArray, List.set_cons_succ, List.set_cons_zero]
          refine q_move rfl (.tmp 8) rfl ?_
          simp only [Act.put, List.setIfInBounds_toArray, List.set_cons_succ, List.set_cons_zero]
          refine q_call rfl (args := #[.agg (Bv (bothP s t)), .int .i64 k]) (fun w' hw' => run_call2 (u := .agg (Bv (bothP s t))) (v := .int .i64 k) rfl Try.call11 rfl rfl w') (fun w' hw' => class_has_is (Nat.le_refl _) hw' k hu true HU.out) ?_
          simp only [Act.put, List.setIfInBounds_toArray, List.set_cons_succ, List.set_cons_zero]
          refine q_val rfl (fun w' hw' => run_load_set 22 (x := .tmp 2) rfl rfl hs Try.underlying22 size22 (row_in hw' R2.out)) ?_
          simp only [Act.put, List.setIfInBounds_toArray, List.set_cons_succ, List.set_cons_zero]
          refine q_move rfl (.tmp 8) rfl ?_
          simp only [Act.put, List.setIfInBounds_toArray, List.set_cons_succ, List.set_cons_zero]
          refine q_call rfl (args := #[.agg (Bv s), .int .i64 k]) (fun w' hw' => run_call2 (u := .agg (Bv s)) (v := .int .i64 k) rfl Try.call11 rfl rfl w') (fun w' hw' => class_has_is (Nat.le_refl _) hw' k hs true HS.out) ?_
          simp only [Act.put, List.setIfInBounds_toArray, List.set_cons_succ, List.set_cons_zero]
          refine q_move rfl (.tmp 35) rfl ?_
          simp only [Act.put, List.setIfInBounds_toArray, List.set_cons_succ, List.set_cons_zero]
          refine q_skip rfl ?_
          simp only [Act.put, List.setIfInBounds_toArray, List.set_cons_succ, List.set_cons_zero]
          refine q_skip rfl ?_
          simp only [Act.put, List.setIfInBounds_toArray, List.set_cons_succ, List.set_cons_zero]
          refine q_skip rfl ?_
          simp only [Act.put, List.setIfInBounds_toArray, List.set_cons_succ, List.set_cons_zero]
          refine q_val rfl (fun w' hw' => run_pick (c := .tmp 36) (a := .const (.bool true)) (b := .tmp 39) rfl (t := true) rfl w') ?_
          simp only [Act.put, List.setIfInBounds_toArray, List.set_cons_succ, List.set_cons_zero]
          refine q_val rfl (fun w' hw' => (run_neq_bool_is (x := .tmp 32) (y := .tmp 40) rfl Try.underlying4 rfl rfl false rfl w')) ?_
          simp only [Act.put, List.setIfInBounds_toArray, List.set_cons_succ, List.set_cons_zero]
          refine wpQuiet_nil ?_
          intro w' hw'
          go_wp2
          go_roundw
          case rel => exact ⟨k + 1, (withoutP v (k : Int)), by omega, by go_num, by rw [HI.out]; go_num, hv2, HL.out, row_in hw' R2.out, row_in hw' R3.out, row_in hw' R5.out, row_in hw' R6.out, RB.out.trans (hw'.mono RS.out)⟩
          case measure => simp [intOf]; omega
        | false =>
          have HT := Lib.hid (show hasP t (k : Int) = true by rw [hasP_nat hlt]; exact hmt)
          have HS := Lib.hid (show hasP s (k : Int) = false by rw [hasP_nat hlt]; exact hms)
          have HU := Lib.hid (show hasP (bothP s t) (k : Int) = true by rw [hasP_nat hlt, mem_both hs ht k hlt, hmt, hms]; rfl)
          have HI := Lib.hid (show inter s t (k + 1) = inter s t k + 0 by rw [inter, hmt, hms]; rfl)
          have HL := Lib.hid (less_in hv hlt RL.out hmt)
          have hv2 := hv.without (k : Int)
          clear hmt hms
          go_wp2_with (refine load_set rfl (.tmp 3) 22 rfl (w.heap.size + 1) rfl 22 t ht 5 Try.underlying22 size22 ?_ ?_)
          · exact R3.out
          have hcall := has_any t (k : Int) wr ht
          rw [HT.out] at hcall
          refine hcall.mono ?_
          clear hcall
          rintro e w3 ⟨rfl, hb3⟩
          have R2 := Lib.hid (row_later hb3 R2.out (row_lt R2.out))
          have R3 := Lib.hid (row_later hb3 R3.out (row_lt R3.out))
          have R5 := Lib.hid (row_later hb3 R5.out (row_lt R5.out))
          have R6 := Lib.hid (row_later hb3 R6.out (row_lt R6.out))
          have RB := Lib.hid (RB.out.trans (hb3.mono RS.out))
          have RS := Lib.hid RB.out.size
          clear hb3
          go_wp2_with (refine load_set rfl (.tmp 6) 28 rfl (w2.heap.size + 1) rfl 28 v hv 5 Try.underlying28 size28 ?_ ?_)
          · exact R6.out
          refine (without_any v (k : Int) _ hv).mono ?_
          rintro e w4 ⟨rfl, hb4⟩
          have R2 := Lib.hid (row_later hb4 R2.out (row_lt R2.out))
          have R3 := Lib.hid (row_later hb4 R3.out (row_lt R3.out))
          have R5 := Lib.hid (row_later hb4 R5.out (row_lt R5.out))
          have R6 := Lib.hid (row_later hb4 R6.out (row_lt R6.out))
          have RB := Lib.hid (RB.out.trans (hb4.mono RS.out))
          clear hb4
          have M2 := Lib.hid (show (w4.setRow (w2.heap.size + 1) (Bv (withoutP v (k : Int)))).heap[w.heap.size]? = _ from (setRow_other _ _ _ _ (by have := KS2.out; omega)).trans R2.out)
          have M3 := Lib.hid (show (w4.setRow (w2.heap.size + 1) (Bv (withoutP v (k : Int)))).heap[w.heap.size + 1]? = _ from (setRow_other _ _ _ _ (by have := G23.out; omega)).trans R3.out)
          have M5 := Lib.hid (show (w4.setRow (w2.heap.size + 1) (Bv (withoutP v (k : Int)))).heap[w2.heap.size]? = _ from (setRow_other _ _ _ _ (by omega)).trans R5.out)
          have M6 := Lib.hid (setRow_heap w4 _ _ (Bv (withoutP v (k : Int))) _ _ R6.out)
          have MB := Lib.hid (below_setRow RB.out (g := w2.heap.size + 1) (by have := KS2.out; omega) (Bv (withoutP v (k : Int))))
          have MS := Lib.hid MB.out.size
          have SZ := Lib.hid (show (Bv v).size = 30 by rw [Bv_size]; exact hv.len)
          go_wp2_with (first | (refine store_set rfl (.tmp 6) (.tmp 24) 28 rfl (w2.heap.size + 1) (withoutP v (k : Int)) rfl rfl hv2 28 (Bv v) size28 SZ.out ?_ ?_) | (refine load_set rfl (.tmp 2) 22 rfl w.heap.size rfl 22 s hs 5 Try.underlying22 size22 ?_ ?_))
          · exact R6.out
          · exact M2.out
          have hcall := has_any s (k : Int) (w4.setRow (w2.heap.size + 1) (Bv (withoutP v (k : Int)))) hs
          rw [HS.out] at hcall
          refine hcall.mono ?_
          clear hcall
          rintro e W ⟨rfl, hb5⟩
          have R2 := Lib.hid (row_later hb5 M2.out (row_lt M2.out))
          have R3 := Lib.hid (row_later hb5 M3.out (row_lt M3.out))
          have R5 := Lib.hid (row_later hb5 M5.out (row_lt M5.out))
          have R6 := Lib.hid (row_later hb5 M6.out (row_lt M6.out))
          have RB := Lib.hid (MB.out.trans (hb5.mono MS.out))
          have RS := Lib.hid RB.out.size
          clear hb5
          go_wp2_with fail
          refine region_class (fun w' => Below W.heap.size W w') (by kernel_rfl) (by kernel_rfl) (Below.refl _ _).drew ?_
          refine q_val rfl (fun w' hw' => run_load_set 28 (x := .tmp 5) rfl rfl hu Try.underlying28 size28 (row_in hw' R5.out)) ?_
          simp only [Act.put, List.setIfInBounds_toArray, List.set_cons_succ, List.set_cons_zero]
          refine q_move rfl (.tmp 8) rfl ?_
          simp only [Act.put, List.setIfInBounds_toArray, List.set_cons_succ, List.set_cons_zero]
          refine q_call rfl (args := #[.agg (Bv (bothP s t)), .int .i64 k]) (fun w' hw' => run_call2 (u := .agg (Bv (bothP s t))) (v := .int .i64 k) rfl Try.call11 rfl rfl w') (fun w' hw' => class_has_is (Nat.le_refl _) hw' k hu true HU.out) ?_
          simp only [Act.put, List.setIfInBounds_toArray, List.set_cons_succ, List.set_cons_zero]
          refine q_val rfl (fun w' hw' => run_load_set 22 (x := .tmp 2) rfl rfl hs Try.underlying22 size22 (row_in hw' R2.out)) ?_
          simp only [Act.put, List.setIfInBounds_toArray, List.set_cons_succ, List.set_cons_zero]
          refine q_move rfl (.tmp 8) rfl ?_
          simp only [Act.put, List.setIfInBounds_toArray, List.set_cons_succ, List.set_cons_zero]
          refine q_call rfl (args := #[.agg (Bv s), .int .i64 k]) (fun w' hw' => run_call2 (u := .agg (Bv s)) (v := .int .i64 k) rfl Try.call11 rfl rfl w') (fun w' hw' => class_has_is (Nat.le_refl _) hw' k hs false HS.out) ?_
          simp only [Act.put, List.setIfInBounds_toArray, List.set_cons_succ, List.set_cons_zero]
          refine q_move rfl (.tmp 35) rfl ?_
          simp only [Act.put, List.setIfInBounds_toArray, List.set_cons_succ, List.set_cons_zero]
          refine q_val rfl (fun w' hw' => run_load_set 22 (x := .tmp 3) rfl rfl ht Try.underlying22 size22 (row_in hw' R3.out)) ?_
          simp only [Act.put, List.setIfInBounds_toArray, List.set_cons_succ, List.set_cons_zero]
          refine q_move rfl (.tmp 8) rfl ?_
          simp only [Act.put, List.setIfInBounds_toArray, List.set_cons_succ, List.set_cons_zero]
          refine q_call rfl (args := #[.agg (Bv t), .int .i64 k]) (fun w' hw' => run_call2 (u := .agg (Bv t)) (v := .int .i64 k) rfl Try.call11 rfl rfl w') (fun w' hw' => class_has_is (Nat.le_refl _) hw' k ht true HT.out) ?_
          simp only [Act.put, List.setIfInBounds_toArray, List.set_cons_succ, List.set_cons_zero]
          refine q_val rfl (fun w' hw' => run_pick (c := .tmp 36) (a := .const (.bool true)) (b := .tmp 39) rfl (t := false) rfl w') ?_
          simp only [Act.put, List.setIfInBounds_toArray, List.set_cons_succ, List.set_cons_zero]
          refine q_val rfl (fun w' hw' => (run_neq_bool_is (x := .tmp 32) (y := .tmp 40) rfl Try.underlying4 rfl rfl false rfl w')) ?_
          simp only [Act.put, List.setIfInBounds_toArray, List.set_cons_succ, List.set_cons_zero]
          refine wpQuiet_nil ?_
          intro w' hw'
          go_wp2
          go_roundw
          case rel => exact ⟨k + 1, (withoutP v (k : Int)), by omega, by go_num, by rw [HI.out]; go_num, hv2, HL.out, row_in hw' R2.out, row_in hw' R3.out, row_in hw' R5.out, row_in hw' R6.out, RB.out.trans (hw'.mono RS.out)⟩
          case measure => simp [intOf]; omega
      | false =>
        cases hms : mem s k with
        | true =>
          have HT := Lib.hid (show hasP t (k : Int) = false by rw [hasP_nat hlt]; exact hmt)
          have HS := Lib.hid (show hasP s (k : Int) = true by rw [hasP_nat hlt]; exact hms)
          have HU := Lib.hid (show hasP (bothP s t) (k : Int) = true by rw [hasP_nat hlt, mem_both hs ht k hlt, hmt, hms]; rfl)
          have HI := Lib.hid (show inter s t (k + 1) = inter s t k + 0 by rw [inter, hmt, hms]; rfl)
          have HL := Lib.hid (less_out RL.out hmt)
          clear hmt hms
          go_wp2_with (refine load_set rfl (.tmp 3) 22 rfl (w.heap.size + 1) rfl 22 t ht 5 Try.underlying22 size22 ?_ ?_)
          · exact R3.out
          have hcall := has_any t (k : Int) wr ht
          rw [HT.out] at hcall
          refine hcall.mono ?_
          clear hcall
          rintro e w3 ⟨rfl, hb3⟩
          have R2 := Lib.hid (row_later hb3 R2.out (row_lt R2.out))
          have R3 := Lib.hid (row_later hb3 R3.out (row_lt R3.out))
          have R5 := Lib.hid (row_later hb3 R5.out (row_lt R5.out))
          have R6 := Lib.hid (row_later hb3 R6.out (row_lt R6.out))
          have RB := Lib.hid (RB.out.trans (hb3.mono RS.out))
          have RS := Lib.hid RB.out.size
          clear hb3
          obtain ⟨W, hW⟩ : ∃ W, W = w3 := ⟨_, rfl⟩
          subst hW
          go_wp2_with fail
          refine region_class (fun w' => Below W.heap.size W w') (by kernel_rfl) (by kernel_rfl) (Below.refl _ _).drew ?_
          refine q_val rfl (fun w' hw' => run_load_set 28 (x := .tmp 5) rfl rfl hu Try.underlying28 size28 (row_in hw' R5.out)) ?_
          simp only [Act.put, List.setIfInBounds_toArray, List.set_cons_succ, List.set_cons_zero]
          refine q_move rfl (.tmp 8) rfl ?_
          simp only [Act.put, List.setIfInBounds_toArray, List.set_cons_succ, List.set_cons_zero]
          refine q_call rfl (args := #[.agg (Bv (bothP s t)), .int .i64 k]) (fun w' hw' => run_call2 (u := .agg (Bv (bothP s t))) (v := .int .i64 k) rfl Try.call11 rfl rfl w') (fun w' hw' => class_has_is (Nat.le_refl _) hw' k hu true HU.out) ?_
          simp only [Act.put, List.setIfInBounds_toArray, List.set_cons_succ, List.set_cons_zero]
          refine q_val rfl (fun w' hw' => run_load_set 22 (x := .tmp 2) rfl rfl hs Try.underlying22 size22 (row_in hw' R2.out)) ?_
          simp only [Act.put, List.setIfInBounds_toArray, List.set_cons_succ, List.set_cons_zero]
          refine q_move rfl (.tmp 8) rfl ?_
          simp only [Act.put, List.setIfInBounds_toArray, List.set_cons_succ, List.set_cons_zero]
          refine q_call rfl (args := #[.agg (Bv s), .int .i64 k]) (fun w' hw' => run_call2 (u := .agg (Bv s)) (v := .int .i64 k) rfl Try.call11 rfl rfl w') (fun w' hw' => class_has_is (Nat.le_refl _) hw' k hs true HS.out) ?_
          simp only [Act.put, List.setIfInBounds_toArray, List.set_cons_succ, List.set_cons_zero]
          refine q_move rfl (.tmp 35) rfl ?_
          simp only [Act.put, List.setIfInBounds_toArray, List.set_cons_succ, List.set_cons_zero]
          refine q_skip rfl ?_
          simp only [Act.put, List.setIfInBounds_toArray, List.set_cons_succ, List.set_cons_zero]
          refine q_skip rfl ?_
          simp only [Act.put, List.setIfInBounds_toArray, List.set_cons_succ, List.set_cons_zero]
          refine q_skip rfl ?_
          simp only [Act.put, List.setIfInBounds_toArray, List.set_cons_succ, List.set_cons_zero]
          refine q_val rfl (fun w' hw' => run_pick (c := .tmp 36) (a := .const (.bool true)) (b := .tmp 39) rfl (t := true) rfl w') ?_
          simp only [Act.put, List.setIfInBounds_toArray, List.set_cons_succ, List.set_cons_zero]
          refine q_val rfl (fun w' hw' => (run_neq_bool_is (x := .tmp 32) (y := .tmp 40) rfl Try.underlying4 rfl rfl false rfl w')) ?_
          simp only [Act.put, List.setIfInBounds_toArray, List.set_cons_succ, List.set_cons_zero]
          refine wpQuiet_nil ?_
          intro w' hw'
          go_wp2
          go_roundw
          case rel => exact ⟨k + 1, v, by omega, by go_num, by rw [HI.out]; go_num, hv, HL.out, row_in hw' R2.out, row_in hw' R3.out, row_in hw' R5.out, row_in hw' R6.out, RB.out.trans (hw'.mono RS.out)⟩
          case measure => simp [intOf]; omega
        | false =>
          have HT := Lib.hid (show hasP t (k : Int) = false by rw [hasP_nat hlt]; exact hmt)
          have HS := Lib.hid (show hasP s (k : Int) = false by rw [hasP_nat hlt]; exact hms)
          have HU := Lib.hid (show hasP (bothP s t) (k : Int) = false by rw [hasP_nat hlt, mem_both hs ht k hlt, hmt, hms]; rfl)
          have HI := Lib.hid (show inter s t (k + 1) = inter s t k + 0 by rw [inter, hmt, hms]; rfl)
          have HL := Lib.hid (less_out RL.out hmt)
          clear hmt hms
          go_wp2_with (refine load_set rfl (.tmp 3) 22 rfl (w.heap.size + 1) rfl 22 t ht 5 Try.underlying22 size22 ?_ ?_)
          · exact R3.out
          have hcall := has_any t (k : Int) wr ht
          rw [HT.out] at hcall
          refine hcall.mono ?_
          clear hcall
          rintro e w3 ⟨rfl, hb3⟩
          have R2 := Lib.hid (row_later hb3 R2.out (row_lt R2.out))
          have R3 := Lib.hid (row_later hb3 R3.out (row_lt R3.out))
          have R5 := Lib.hid (row_later hb3 R5.out (row_lt R5.out))
          have R6 := Lib.hid (row_later hb3 R6.out (row_lt R6.out))
          have RB := Lib.hid (RB.out.trans (hb3.mono RS.out))
          have RS := Lib.hid RB.out.size
          clear hb3
          obtain ⟨W, hW⟩ : ∃ W, W = w3 := ⟨_, rfl⟩
          subst hW
          go_wp2_with fail
          refine region_class (fun w' => Below W.heap.size W w') (by kernel_rfl) (by kernel_rfl) (Below.refl _ _).drew ?_
          refine q_val rfl (fun w' hw' => run_load_set 28 (x := .tmp 5) rfl rfl hu Try.underlying28 size28 (row_in hw' R5.out)) ?_
          simp only [Act.put, List.setIfInBounds_toArray, List.set_cons_succ, List.set_cons_zero]
          refine q_move rfl (.tmp 8) rfl ?_
          simp only [Act.put, List.setIfInBounds_toArray, List.set_cons_succ, List.set_cons_zero]
          refine q_call rfl (args := #[.agg (Bv (bothP s t)), .int .i64 k]) (fun w' hw' => run_call2 (u := .agg (Bv (bothP s t))) (v := .int .i64 k) rfl Try.call11 rfl rfl w') (fun w' hw' => class_has_is (Nat.le_refl _) hw' k hu false HU.out) ?_
          simp only [Act.put, List.setIfInBounds_toArray, List.set_cons_succ, List.set_cons_zero]
          refine q_val rfl (fun w' hw' => run_load_set 22 (x := .tmp 2) rfl rfl hs Try.underlying22 size22 (row_in hw' R2.out)) ?_
          simp only [Act.put, List.setIfInBounds_toArray, List.set_cons_succ, List.set_cons_zero]
          refine q_move rfl (.tmp 8) rfl ?_
          simp only [Act.put, List.setIfInBounds_toArray, List.set_cons_succ, List.set_cons_zero]
          refine q_call rfl (args := #[.agg (Bv s), .int .i64 k]) (fun w' hw' => run_call2 (u := .agg (Bv s)) (v := .int .i64 k) rfl Try.call11 rfl rfl w') (fun w' hw' => class_has_is (Nat.le_refl _) hw' k hs false HS.out) ?_
          simp only [Act.put, List.setIfInBounds_toArray, List.set_cons_succ, List.set_cons_zero]
          refine q_move rfl (.tmp 35) rfl ?_
          simp only [Act.put, List.setIfInBounds_toArray, List.set_cons_succ, List.set_cons_zero]
          refine q_val rfl (fun w' hw' => run_load_set 22 (x := .tmp 3) rfl rfl ht Try.underlying22 size22 (row_in hw' R3.out)) ?_
          simp only [Act.put, List.setIfInBounds_toArray, List.set_cons_succ, List.set_cons_zero]
          refine q_move rfl (.tmp 8) rfl ?_
          simp only [Act.put, List.setIfInBounds_toArray, List.set_cons_succ, List.set_cons_zero]
          refine q_call rfl (args := #[.agg (Bv t), .int .i64 k]) (fun w' hw' => run_call2 (u := .agg (Bv t)) (v := .int .i64 k) rfl Try.call11 rfl rfl w') (fun w' hw' => class_has_is (Nat.le_refl _) hw' k ht false HT.out) ?_
          simp only [Act.put, List.setIfInBounds_toArray, List.set_cons_succ, List.set_cons_zero]
          refine q_val rfl (fun w' hw' => run_pick (c := .tmp 36) (a := .const (.bool true)) (b := .tmp 39) rfl (t := false) rfl w') ?_
          simp only [Act.put, List.setIfInBounds_toArray, List.set_cons_succ, List.set_cons_zero]
          refine q_val rfl (fun w' hw' => (run_neq_bool_is (x := .tmp 32) (y := .tmp 40) rfl Try.underlying4 rfl rfl false rfl w')) ?_
          simp only [Act.put, List.setIfInBounds_toArray, List.set_cons_succ, List.set_cons_zero]
          refine wpQuiet_nil ?_
          intro w' hw'
          go_wp2
          go_roundw
          case rel => exact ⟨k + 1, v, by omega, by go_num, by rw [HI.out]; go_num, hv, HL.out, row_in hw' R2.out, row_in hw' R3.out, row_in hw' R5.out, row_in hw' R6.out, RB.out.trans (hw'.mono RS.out)⟩
          case measure => simp [intOf]; omega
    · have hk240 : k = 240 := by omega
      subst hk240
      have e1 := cnt_both hs ht 240 (Nat.le_refl _)
      have e2 := cnt_less hs ht RL.out 240 (Nat.le_refl _)
      have c1 := countP_le hs
      have c2 := countP_le ht
      have c3 := countP_le hu
      rw [← countP_eq hs, ← countP_eq ht, ← countP_eq hu] at e1
      rw [← countP_eq hv, ← countP_eq ht, ← countP_eq hu] at e2
      have Q1 := Lib.hid (show decide (bothP s t = bothP t s) = true by simp [both_comm hs ht])
      have Q2 := Lib.hid (show decide (bothP (bothP s t) (bothP s t) = bothP s t) = true by simp [both_self hu])
      have Q3 := Lib.hid (show -9223372036854775808 ≤ (countP s : Int) + (countP t : Int) ∧ (countP s : Int) + (countP t : Int) ≤ 9223372036854775807 by omega)
      have Q4 := Lib.hid (show -9223372036854775808 ≤ (countP s : Int) + (countP t : Int) - (inter s t 240 : Int) ∧ (countP s : Int) + (countP t : Int) - (inter s t 240 : Int) ≤ 9223372036854775807 by omega)
      have Q5 := Lib.hid (show ((countP (bothP s t) : Int) == (countP s : Int) + (countP t : Int) - (inter s t 240 : Int)) = true by simp; omega)
      have Q6 := Lib.hid (show -9223372036854775808 ≤ (countP (bothP s t) : Int) - (countP t : Int) ∧ (countP (bothP s t) : Int) - (countP t : Int) ≤ 9223372036854775807 by omega)
      have Q7 := Lib.hid (show ((countP v : Int) == (countP (bothP s t) : Int) - (countP t : Int)) = true by simp; omega)
      clear e1 e2 c1 c2 c3 hil
      obtain ⟨W, hW⟩ : ∃ W, W = wr := ⟨_, rfl⟩
      subst hW
      go_wp2_with fail
      refine region_class (fun w' => Below W.heap.size W w') (by kernel_rfl) (by kernel_rfl) (Below.refl _ _).drew ?_
      refine q_val rfl (fun w' hw' => run_load_set 28 (x := .tmp 5) rfl rfl hu Try.underlying28 size28 (row_in hw' R5.out)) ?_
      simp only [Act.put, List.setIfInBounds_toArray, List.set_cons_succ, List.set_cons_zero]
      refine q_val rfl (fun w' hw' => run_load_set 22 (x := .tmp 3) rfl rfl ht Try.underlying22 size22 (row_in hw' R3.out)) ?_
      simp only [Act.put, List.setIfInBounds_toArray, List.set_cons_succ, List.set_cons_zero]
      refine q_val rfl (fun w' hw' => run_load_set 22 (x := .tmp 2) rfl rfl hs Try.underlying22 size22 (row_in hw' R2.out)) ?_
      simp only [Act.put, List.setIfInBounds_toArray, List.set_cons_succ, List.set_cons_zero]
      refine q_call rfl (args := #[.agg (Bv t), .agg (Bv s)]) (fun w' hw' => run_call2 (u := .agg (Bv t)) (v := .agg (Bv s)) rfl Try.call17 rfl rfl w') (fun w' hw' => class_both (Nat.le_refl _) hw' ht hs) ?_
      simp only [Act.put, List.setIfInBounds_toArray, List.set_cons_succ, List.set_cons_zero]
      refine q_val rfl (fun w' hw' => run_eql_set (x := .tmp 42) (y := .tmp 45) rfl hu (ht.both hs) rfl rfl true Q1.out w') ?_
      simp only [Act.put, List.setIfInBounds_toArray, List.set_cons_succ, List.set_cons_zero]
      refine q_move rfl (.tmp 46) rfl ?_
      simp only [Act.put, List.setIfInBounds_toArray, List.set_cons_succ, List.set_cons_zero]
      refine q_val rfl (fun w' hw' => run_load_set 28 (x := .tmp 5) rfl rfl hu Try.underlying28 size28 (row_in hw' R5.out)) ?_
      simp only [Act.put, List.setIfInBounds_toArray, List.set_cons_succ, List.set_cons_zero]
      refine q_val rfl (fun w' hw' => run_load_set 28 (x := .tmp 5) rfl rfl hu Try.underlying28 size28 (row_in hw' R5.out)) ?_
      simp only [Act.put, List.setIfInBounds_toArray, List.set_cons_succ, List.set_cons_zero]
      refine q_call rfl (args := #[.agg (Bv (bothP s t)), .agg (Bv (bothP s t))]) (fun w' hw' => run_call2 (u := .agg (Bv (bothP s t))) (v := .agg (Bv (bothP s t))) rfl Try.call17 rfl rfl w') (fun w' hw' => class_both (Nat.le_refl _) hw' hu hu) ?_
      simp only [Act.put, List.setIfInBounds_toArray, List.set_cons_succ, List.set_cons_zero]
      refine q_val rfl (fun w' hw' => run_load_set 28 (x := .tmp 5) rfl rfl hu Try.underlying28 size28 (row_in hw' R5.out)) ?_
      simp only [Act.put, List.setIfInBounds_toArray, List.set_cons_succ, List.set_cons_zero]
      refine q_val rfl (fun w' hw' => run_eql_set (x := .tmp 50) (y := .tmp 51) rfl (hu.both hu) hu rfl rfl true Q2.out w') ?_
      simp only [Act.put, List.setIfInBounds_toArray, List.set_cons_succ, List.set_cons_zero]
      refine q_val rfl (fun w' hw' => run_pick (c := .tmp 47) (a := .tmp 52) (b := .const (.bool false)) rfl (t := true) rfl w') ?_
      simp only [Act.put, List.setIfInBounds_toArray, List.set_cons_succ, List.set_cons_zero]
      refine q_move rfl (.tmp 53) rfl ?_
      simp only [Act.put, List.setIfInBounds_toArray, List.set_cons_succ, List.set_cons_zero]
      refine q_val rfl (fun w' hw' => run_load_set 28 (x := .tmp 5) rfl rfl hu Try.underlying28 size28 (row_in hw' R5.out)) ?_
      simp only [Act.put, List.setIfInBounds_toArray, List.set_cons_succ, List.set_cons_zero]
      refine q_call rfl (args := #[.agg (Bv (bothP s t))]) (fun w' hw' => run_call1 (u := .agg (Bv (bothP s t))) rfl Try.call13 rfl w') (fun w' hw' => class_count (Nat.le_refl _) hw' hu) ?_
      simp only [Act.put, List.setIfInBounds_toArray, List.set_cons_succ, List.set_cons_zero]
      refine q_val rfl (fun w' hw' => run_load_set 22 (x := .tmp 2) rfl rfl hs Try.underlying22 size22 (row_in hw' R2.out)) ?_
      simp only [Act.put, List.setIfInBounds_toArray, List.set_cons_succ, List.set_cons_zero]
      refine q_call rfl (args := #[.agg (Bv s)]) (fun w' hw' => run_call1 (u := .agg (Bv s)) rfl Try.call13 rfl w') (fun w' hw' => class_count (Nat.le_refl _) hw' hs) ?_
      simp only [Act.put, List.setIfInBounds_toArray, List.set_cons_succ, List.set_cons_zero]
      refine q_val rfl (fun w' hw' => run_load_set 22 (x := .tmp 3) rfl rfl ht Try.underlying22 size22 (row_in hw' R3.out)) ?_
      simp only [Act.put, List.setIfInBounds_toArray, List.set_cons_succ, List.set_cons_zero]
      refine q_call rfl (args := #[.agg (Bv t)]) (fun w' hw' => run_call1 (u := .agg (Bv t)) rfl Try.call13 rfl w') (fun w' hw' => class_count (Nat.le_refl _) hw' ht) ?_
      simp only [Act.put, List.setIfInBounds_toArray, List.set_cons_succ, List.set_cons_zero]
      refine q_val rfl (fun w' hw' => run_add_int (x := .tmp 58) (y := .tmp 60) rfl rfl rfl Q3.out w') ?_
      simp only [Act.put, List.setIfInBounds_toArray, List.set_cons_succ, List.set_cons_zero]
      refine q_move rfl (.tmp 7) rfl ?_
      simp only [Act.put, List.setIfInBounds_toArray, List.set_cons_succ, List.set_cons_zero]
      refine q_val rfl (fun w' hw' => run_sub_int (x := .tmp 61) (y := .tmp 62) rfl rfl rfl Q4.out w') ?_
      simp only [Act.put, List.setIfInBounds_toArray, List.set_cons_succ, List.set_cons_zero]
      refine q_val rfl (fun w' hw' => (run_eql_int_is (x := .tmp 56) (y := .tmp 63) rfl rfl rfl true Q5.out w')) ?_
      simp only [Act.put, List.setIfInBounds_toArray, List.set_cons_succ, List.set_cons_zero]
      refine q_val rfl (fun w' hw' => run_pick (c := .tmp 54) (a := .tmp 64) (b := .const (.bool false)) rfl (t := true) rfl w') ?_
      simp only [Act.put, List.setIfInBounds_toArray, List.set_cons_succ, List.set_cons_zero]
      refine q_move rfl (.tmp 65) rfl ?_
      simp only [Act.put, List.setIfInBounds_toArray, List.set_cons_succ, List.set_cons_zero]
      refine q_val rfl (fun w' hw' => run_load_set 28 (x := .tmp 6) rfl rfl hv Try.underlying28 size28 (row_in hw' R6.out)) ?_
      simp only [Act.put, List.setIfInBounds_toArray, List.set_cons_succ, List.set_cons_zero]
      refine q_call rfl (args := #[.agg (Bv v)]) (fun w' hw' => run_call1 (u := .agg (Bv v)) rfl Try.call13 rfl w') (fun w' hw' => class_count (Nat.le_refl _) hw' hv) ?_
      simp only [Act.put, List.setIfInBounds_toArray, List.set_cons_succ, List.set_cons_zero]
      refine q_val rfl (fun w' hw' => run_load_set 28 (x := .tmp 5) rfl rfl hu Try.underlying28 size28 (row_in hw' R5.out)) ?_
      simp only [Act.put, List.setIfInBounds_toArray, List.set_cons_succ, List.set_cons_zero]
      refine q_call rfl (args := #[.agg (Bv (bothP s t))]) (fun w' hw' => run_call1 (u := .agg (Bv (bothP s t))) rfl Try.call13 rfl w') (fun w' hw' => class_count (Nat.le_refl _) hw' hu) ?_
      simp only [Act.put, List.setIfInBounds_toArray, List.set_cons_succ, List.set_cons_zero]
      refine q_val rfl (fun w' hw' => run_load_set 22 (x := .tmp 3) rfl rfl ht Try.underlying22 size22 (row_in hw' R3.out)) ?_
      simp only [Act.put, List.setIfInBounds_toArray, List.set_cons_succ, List.set_cons_zero]
      refine q_call rfl (args := #[.agg (Bv t)]) (fun w' hw' => run_call1 (u := .agg (Bv t)) rfl Try.call13 rfl w') (fun w' hw' => class_count (Nat.le_refl _) hw' ht) ?_
      simp only [Act.put, List.setIfInBounds_toArray, List.set_cons_succ, List.set_cons_zero]
      refine q_val rfl (fun w' hw' => run_sub_int (x := .tmp 70) (y := .tmp 72) rfl rfl rfl Q6.out w') ?_
      simp only [Act.put, List.setIfInBounds_toArray, List.set_cons_succ, List.set_cons_zero]
      refine q_val rfl (fun w' hw' => (run_eql_int_is (x := .tmp 68) (y := .tmp 73) rfl rfl rfl true Q7.out w')) ?_
      simp only [Act.put, List.setIfInBounds_toArray, List.set_cons_succ, List.set_cons_zero]
      refine q_val rfl (fun w' hw' => run_pick (c := .tmp 66) (a := .tmp 74) (b := .const (.bool false)) rfl (t := true) rfl w') ?_
      simp only [Act.put, List.setIfInBounds_toArray, List.set_cons_succ, List.set_cons_zero]
      refine q_assign rfl (.tmp 75) rfl ?_
      simp only [Act.put, List.setIfInBounds_toArray, List.set_cons_succ, List.set_cons_zero]
      refine wpQuiet_nil ?_
      intro w' hw'
      go_wp2
      go_ret
      exact ⟨rfl, RB.out.trans (hw'.mono RS.out)⟩

set_option maxRecDepth 100000 in
theorem bitsSets_lifted (os : Os) (started : os.Started) (H : Type) (enc : TypeId × Value → H) :
    ReturnsInHanded {} Try.checked os 7 .any (Rows.bitsSetsSpec.pre6 enc Try.prog Try.f7 Rows.bitsSetsRow.domain false) (Rows.bitsSetsSpec.post enc Try.prog Try.f7 false true false false) := by
  refine returnsInHanded_of_change (C := Try.checked) own started (by kernel_rfl) Try.func7
    (ChangeSpec.witness6 (enc := enc) (C := Try.checked) false ⟨#[], #[.agg #[.int .u8 0, .int .u8 0, .int .u8 0, .int .u8 0, .int .u8 0, .int .u8 0, .int .u8 0, .int .u8 0, .int .u8 0, .int .u8 0, .int .u8 0, .int .u8 0, .int .u8 0, .int .u8 0, .int .u8 0, .int .u8 0, .int .u8 0, .int .u8 0, .int .u8 0, .int .u8 0, .int .u8 0, .int .u8 0, .int .u8 0, .int .u8 0, .int .u8 0, .int .u8 0, .int .u8 0, .int .u8 0, .int .u8 0, .int .u8 0], .agg #[.int .u8 0, .int .u8 0, .int .u8 0, .int .u8 0, .int .u8 0, .int .u8 0, .int .u8 0, .int .u8 0, .int .u8 0, .int .u8 0, .int .u8 0, .int .u8 0, .int .u8 0, .int .u8 0, .int .u8 0, .int .u8 0, .int .u8 0, .int .u8 0, .int .u8 0, .int .u8 0, .int .u8 0, .int .u8 0, .int .u8 0, .int .u8 0, .int .u8 0, .int .u8 0, .int .u8 0, .int .u8 0, .int .u8 0, .int .u8 0]], []⟩ 8 (by kernel_rfl) (by kernel_rfl) (by kernel_rfl) (by kernel_rfl)) ?_
  intro W base args ds gs before hval0 hW hcnd hsz
  have hval : ∀ (j : Nat) t v, Try.f7.params[j]? = some t → args[j]? = some v → Value.okWide Try.prog W .any base t v := hval0
  have hW' := hW
  obtain ⟨p, q, hA0, hV, rfl, hfz, hnd⟩ := hW
  have hA : DataW.TrodAll enc Try.prog W 0 (fun _ => true) true Try.f7.params.toList args.toList ds p := hA0
  rw [Try.params7] at hA hval
  obtain ⟨v0, vs0, d0, ds0, p0, q0, hargs, rfl, rfl, h0, r0⟩ := trodAll_cons hA
  obtain ⟨v1, vs1, d1, ds1, p1, q1, rfl, rfl, rfl, h1, r1⟩ := trodAll_cons r0
  obtain ⟨rfl, rfl, rfl⟩ := trodAll_nil r1
  obtain rfl : args = #[v0, v1] := by cases args; simp_all
  obtain ⟨rfl, rfl⟩ := trodVars_none hV
  have k0 := h0
  have lt0 : ∀ x ∈ p0, x.block < W.heap.size := by obtain ⟨m, hm⟩ := k0; exact DataW.trod_lt m _ _ _ hm
  have k1 := h1
  have lt1 : ∀ x ∈ p1, x.block < W.heap.size := by obtain ⟨m, hm⟩ := k1; exact DataW.trod_lt m _ _ _ hm
  obtain ⟨s0, rfl, hs0⟩ := open_set (hval 0 22 v0 rfl rfl) h0
  obtain ⟨s1, rfl, hs1⟩ := open_set (hval 1 22 v1 rfl rfl) h1
  clear hA0 hval0
  refine (walk_bitsSets s0 hs0 s1 hs1 W).mono fun e W' ⟨he, bel⟩ => ?_
  subst he
  exact ⟨_, rfl, _, _, _, [], _, [], hW', trodAll_mk1 (shut_bool Try.underlying4 _), (trodAll_cons_mk (Below.trod laidOut (by kernel_rfl) (of_decide_eq_true (by kernel_rfl)) k0 bel lt0) (trodAll_cons_mk (Below.trod laidOut (by kernel_rfl) (of_decide_eq_true (by kernel_rfl)) k1 bel lt1) trodAll_mk0)), rfl, bel.frame _, fun h => by cases h⟩

theorem bitsSets_holds : Rows.BitsSetsSaid :=
  OpenClaim.holds_of_wide 7 Try.f7 rfl rfl rfl rfl rfl rfl rfl ⟨rfl, rfl, rfl, rfl, rfl⟩ rfl rfl rfl rfl rfl (by kernel_rfl) Try.func7 (by kernel_rfl)
    (of_decide_eq_true (by kernel_rfl)) (by unfold Func.isWrapper; first | (rw [if_pos (by decide +kernel)]; kernel_rfl) | (rw [if_neg (by decide +kernel)]; exact ⟨rfl, rfl⟩))
    (fun os started H enc _ => bitsSets_lifted os started H enc)

#print axioms bitsSets_holds
end Go.Proofs.Ytkeoghekeapgaaa
