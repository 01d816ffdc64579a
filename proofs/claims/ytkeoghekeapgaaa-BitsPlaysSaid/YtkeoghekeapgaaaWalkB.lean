/-
  The contracts of math/bits.OnesCount8, bits.Count, bits.Both, bits.First and of the reference's Has: each returns what the plain functions of Sets say, and writes nothing that was there.
  Conditions: the arrays' thirty bytes are written as lists of thirty numbers below 256.
-/
import Derived.Test.YtkeoghekeapgaaaWalkA
import Derived.OwnWalk
namespace Go.Proofs.Ytkeoghekeapgaaa
open Go.RowKit

def tabA : Array UInt8 := #[0, 1, 1, 2, 1, 2, 2, 3, 1, 2, 2, 3, 2, 3, 3, 4, 1, 2, 2, 3, 2, 3, 3, 4, 2, 3, 3, 4, 3, 4, 4, 5, 1, 2, 2, 3, 2, 3, 3, 4, 2, 3, 3, 4, 3, 4, 4, 5, 2, 3, 3, 4, 3, 4, 4, 5, 3, 4, 4, 5, 4, 5, 5, 6, 1, 2, 2, 3, 2, 3, 3, 4, 2, 3, 3, 4, 3, 4, 4, 5, 2, 3, 3, 4, 3, 4, 4, 5, 3, 4, 4, 5, 4, 5, 5, 6, 2, 3, 3, 4, 3, 4, 4, 5, 3, 4, 4, 5, 4, 5, 5, 6, 3, 4, 4, 5, 4, 5, 5, 6, 4, 5, 5, 6, 5, 6, 6, 7, 1, 2, 2, 3, 2, 3, 3, 4, 2, 3, 3, 4, 3, 4, 4, 5, 2, 3, 3, 4, 3, 4, 4, 5, 3, 4, 4, 5, 4, 5, 5, 6, 2, 3, 3, 4, 3, 4, 4, 5, 3, 4, 4, 5, 4, 5, 5, 6, 3, 4, 4, 5, 4, 5, 5, 6, 4, 5, 5, 6, 5, 6, 6, 7, 2, 3, 3, 4, 3, 4, 4, 5, 3, 4, 4, 5, 4, 5, 5, 6, 3, 4, 4, 5, 4, 5, 5, 6, 4, 5, 5, 6, 5, 6, 6, 7, 3, 4, 4, 5, 4, 5, 5, 6, 4, 5, 5, 6, 5, 6, 6, 7, 4, 5, 5, 6, 5, 6, 6, 7, 5, 6, 6, 7, 6, 7, 7, 8]
theorem tab_fin : ∀ b : Fin 256, (tabA[b.val]?.getD 0).toNat = pop b.val := by decide +kernel
theorem tab_at (b : Nat) (h : b < (ByteArray.mk tabA).size) (hb : b < 256) : wrap64 (((ByteArray.mk tabA)[b]'h).toNat : Int) = (pop b : Int) := by
  have h1 := tab_fin ⟨b, hb⟩
  have h2 : tabA[b]?.getD 0 = (ByteArray.mk tabA)[b]'h := by
    rw [Array.getElem?_eq_getElem (by exact h)]; rfl
  rw [← h2]
  have := pop_le b
  simp only at h1
  rw [h1]
  exact IntWalk.wrap64_in _ (by omega)

set_option maxRecDepth 100000 in
set_option maxHeartbeats 400000 in
theorem ones_any (b : Nat) (hb : b < 256) (w : World) :
    Calls Try.prog 20 #[.int .u8 (b : Int)] w fun e w' => e = .returned (.int .i64 (pop b : Int)) ∧ w = w' := by
  go_enter Try.func20, Try.ntmps20
  go_wp2
  go_ret
  exact ⟨ret_int (tab_at b _ hb), rfl⟩

section
variable {P : Program} {ops : Array Oper} {rest : List Oper} {o : Oper} {a : Act} {w : World} {Q : Exit → Act → World → Prop}
/-- A whole set out of a variable. -/
theorem load_set (hw : Region.wanted o (yielded ops a.tmps) = true) (x : Operand) (ty : TypeId) (ho : o.op = .load ty x) (g : Nat) (hx : a.eval x = .pointer (some ⟨g, 0, none⟩)) (t : TypeId) (ns : List Nat) (hs : Set30 ns) (e : TypeId)
    (hu : P.underlying ty = some (.array 30 e)) (hi : (P.info? ty).map (·.size) = some 30) (hg : w.heap[g]? = some (.cells (Bv ns) t (0, 0)))
    (h : wpList P ops Q rest (a.put o.dst (.agg (Bv ns))) w) : wpList P ops Q (o :: rest) a w :=
  wpList_step fun K hK => by
    rw [if_pos hw]
    exact wp_load_row ty x ho g hx t (Bv ns) (0, 0) _ hg hu rfl (by rw [Bv_size, hs.len]; exact hi) (hK _ _ h)

/-- A byte of a set, by its place. -/
theorem index_set (hgd : o.guard = none) (x i : Operand) (ty : TypeId) (ho : o.op = .index ty x i) (ns : List Nat) (hs : Set30 ns) (hx : a.eval x = .agg (Bv ns)) (k : Nat) (hk : k < 30) (hi : a.eval i = .int .i64 (k : Int))
    (e : TypeId) (hu : P.underlying ty = some (.array 30 e)) (hue : P.underlying e = some (.int .u8)) (hse : (P.info? e).map (·.size) = some 1) (b : Nat) (hb : ns.getD k 0 = b)
    (h : wpList P ops Q rest (a.put o.dst (.int .u8 (b : Int))) w) : wpList P ops Q (o :: rest) a w := by
  refine wpList_plain hgd fun K hK => ?_
  have hat : (Bv ns)[k]? = some (.int .u8 (b : Int)) := by rw [Bv_at (by rw [hs.len]; exact hk), hb]
  cases hq : P.info? e with
  | none => simp [hq] at hse
  | some ie =>
    have hs1 : ie.size = 1 := by simpa [hq] using hse
    have hrun : (Instr.index ty (.agg (Bv ns)) (.int .i64 (k : Int))).run P w = .ok (.int .u8 (b : Int)) w := by
      simp [Instr.index, asIntOf, Sem.run_bind, run_underlying hu, run_underlying hue, part, isAgg, sizeOf, typeInfo, hq, hs1, hat, hk]
    unfold Oper.wp execOp
    simp only [ho, hx, hi, Sem.run_bind, hrun, Result.andThen_ok]
    exact hK _ _ h

/-- A whole set into a variable. -/
theorem store_set (hgd : o.guard = none) (x y : Operand) (ty : TypeId) (ho : o.op = .store ty x y) (g : Nat) (ns : List Nat) (hx : a.eval x = .pointer (some ⟨g, 0, none⟩)) (hy : a.eval y = .agg (Bv ns)) (hs : Set30 ns)
    (t : TypeId) (old : Array Value) (hi : (P.info? ty).map (·.size) = some 30) (ho' : old.size = 30) (hg : w.heap[g]? = some (.cells old t (0, 0)))
    (h : wpList P ops Q rest (a.put o.dst undef) (w.setRow g (Bv ns))) : wpList P ops Q (o :: rest) a w :=
  wpList_store_row hgd ty x y ho g (Bv ns) hx hy t old hg (by rw [Bv_size, hs.len]; exact hi) (by rw [Bv_size, hs.len]; exact ho') (Bv_one _) h
end

theorem results_set {P : Program} {fn : Func} {p : Tmp} {ty : TypeId} (h : fn.results = #[.cell p ty]) (tmps : Array Value) (w : World) (g : Nat) (t : TypeId) (ns : List Nat) (e : TypeId) (hs : Set30 ns)
    (hp : tmps.getD p undef = .pointer (some ⟨g, 0, none⟩)) (hg : w.heap[g]? = some (.cells (Bv ns) t (0, 0)))
    (hu : P.underlying ty = some (.array 30 e)) (hi : (P.info? ty).map (·.size) = some 30) :
    (results fn tmps).run P w = .ok (.agg (Bv ns)) w :=
  results_cell_row h tmps w g t (Bv ns) (0, 0) _ hp hg hu rfl (by rw [Bv_size, hs.len]; exact hi)

theorem size22 : (Try.prog.info? 22).map (·.size) = some 30 := by kernel_rfl
theorem size5 : (Try.prog.info? 5).map (·.size) = some 1 := by kernel_rfl
theorem Z30_size : Z30.size = 30 := rfl

theorem Bv_put (ns : List Nat) (k b : Nat) : (Bv ns).setIfInBounds k (.int .u8 (b : Int)) = Bv (ns.set k b) := Bv_set ns k b

set_option maxHeartbeats 400000 in
theorem both_any (s t : List Nat) (hs : Set30 s) (ht : Set30 t) (w : World) :
    Calls Try.prog 17 #[.agg (Bv s), .agg (Bv t)] w fun e w' => e = .returned (.agg (Bv (bothP s t))) ∧ Below w.heap.size w w' := by
  have hB0 : Below w.heap.size w (((w.alloc (.cells (Bv s) 28)).alloc (.cells (Bv t) 28)).alloc (.cells Z30 28)) := (((Below.refl _ _).alloc (Nat.le_refl _) _).alloc (by simp) _).alloc (by simp; omega) _
  have H0 : (((w.alloc (.cells (Bv s) 28)).alloc (.cells (Bv t) 28)).alloc (.cells Z30 28)).heap[w.heap.size]? = some (.cells (Bv s) 28 (0, 0)) := by
    rw [Go.heap_alloc_old _ _ (by simp; omega)]; exact heap_alloc2_old _ _ _
  have H1 : (((w.alloc (.cells (Bv s) 28)).alloc (.cells (Bv t) 28)).alloc (.cells Z30 28)).heap[w.heap.size + 1]? = some (.cells (Bv t) 28 (0, 0)) := by
    rw [Go.heap_alloc_old _ _ (by simp)]; exact heap_alloc2_new _ _ _
  have H2 : (((w.alloc (.cells (Bv s) 28)).alloc (.cells (Bv t) 28)).alloc (.cells Z30 28)).heap[w.heap.size + 1 + 1]? = some (.cells Z30 28 (0, 0)) := by
    have := heap_alloc_new ((w.alloc (.cells (Bv s) 28)).alloc (.cells (Bv t) 28)) (.cells Z30 28)
    simpa using this
  have HB := Lib.hid hB0
  have K0 := Lib.hid H0
  have K1 := Lib.hid H1
  have K2 := Lib.hid H2
  clear hB0 H0 H1 H2
  go_enter Try.func17, Try.ntmps17
  go_wp2_with (first | (refine load_set rfl (.tmp 3) 28 rfl (w.heap.size + 1) rfl 28 t ht 5 Try.underlying28 size28 ?_ ?_))
  · exact K1.out
  · go_loopw [8] (fun i wr => ∃ k : Nat, k ≤ 30 ∧ i = .int .i64 k ∧ wr.heap[w.heap.size]? = some (.cells (Bv (bothK s t k)) 28 (0, 0)) ∧ wr.heap[w.heap.size + 1 + 1]? = some (.cells Z30 28 (0, 0)) ∧ Below w.heap.size w wr) (fun i _ => 30 - (intOf i).toNat)
    case atStart => exact ⟨0, by omega, rfl, K0.out, K2.out, HB.out⟩
    case round =>
      obtain ⟨k, hk, rfl, hr0, hr2, hB⟩ := hrel
      have R0 := Lib.hid hr0
      have R2 := Lib.hid hr2
      have RB := Lib.hid hB
      by_cases hlt : k < 30
      · obtain ⟨b, hb⟩ : ∃ b, b = (bothK s t k).getD k 0 := ⟨_, rfl⟩
        obtain ⟨c, hc⟩ : ∃ c, c = t.getD k 0 := ⟨_, rfl⟩
        have hcell : wr.cell? ⟨w.heap.size, k, none⟩ = some (.int .u8 (b : Int)) := by
          rw [cell_of_row wr _ _ _ _ _ hr0, Bv_at (by rw [bothK_len, hs.len]; exact hlt), hb]
        have hfz : wr.frozen? ⟨w.heap.size, k, none⟩ = false := frozen_of_row wr _ _ _ _ hr0
        have ho : bits BinOp.or IntKind.u8 (b : Int) (c : Int) = ((b ||| c : Nat) : Int) := u8_or_nat _ _ (hb ▸ (hs.bothK ht k).getD_lt _) (hc ▸ ht.getD_lt _)
        have HE := Lib.hid (show bothK s t (k + 1) = (bothK s t k).set k (b ||| c) by rw [bothK, hb, hc])
        have HC := Lib.hid hc.symm
        clear hr0 hr2 hB hb hc
        go_wp2_with (refine index_set rfl (.tmp 7) (.tmp 8) 28 rfl t ht rfl k hlt rfl 5 Try.underlying28 Try.underlying5 size5 c HC.out ?_)
        go_roundw
        case rel => exact ⟨k + 1, by omega, by go_num, by rw [heap_setCell_same wr _ _ _ _ _ R0.out, HE.out]; simp [Bv, List.map_set], by rw [heap_setCell_other _ _ _ _ (by simp; omega)]; exact R2.out, RB.out.setCell (Nat.le_refl _) _⟩
        case measure => simp [intOf]; omega
      · have hk30 : k = 30 := by omega
        subst hk30
        have hS : Set30 (bothP s t) := hs.both ht
        have hr0' : wr.heap[w.heap.size]? = some (.cells (Bv (bothP s t)) 28 (0, 0)) := by rw [← bothK_all hs ht]; exact hr0
        have R0' := Lib.hid hr0'
        clear hr0' hr0 hr2 hB
        go_wp2_with (first | (refine load_set rfl (.tmp 2) 28 rfl w.heap.size rfl 28 (bothP s t) hS 5 Try.underlying28 size28 ?_ ?_) | (refine store_set rfl (.tmp 4) (.tmp 19) 28 rfl (w.heap.size + 1 + 1) (bothP s t) rfl rfl hS 28 Z30 size28 Z30_size ?_ ?_))
        · exact R0'.out
        · exact R2.out
        · exact bodyPost_ret (results_set rfl _ _ (w.heap.size + 1 + 1) 28 (bothP s t) 5 hS rfl (setRow_heap _ _ Z30 _ _ _ R2.out) Try.underlying28 size28) rfl ⟨rfl, below_setRow RB.out (by omega) _⟩

theorem countP_take {ns : List Nat} (k : Nat) (h : k < ns.length) : countP (ns.take (k + 1)) = countP (ns.take k) + pop (ns.getD k 0) := by
  rw [List.take_succ_eq_append_getElem h]
  unfold countP
  rw [List.map_append, List.sum_append]
  simp [List.getElem?_eq_getElem h]

theorem countP_small {ns : List Nat} (k : Nat) (h : k ≤ ns.length) (h30 : ns.length = 30) : countP (ns.take k) ≤ 240 := by
  rw [count_take ns k h]
  have := cnt_le ns (8 * k)
  omega

set_option maxHeartbeats 400000 in
theorem count_any (ns : List Nat) (hs : Set30 ns) (w : World) :
    Calls Try.prog 13 #[.agg (Bv ns)] w fun e w' => e = .returned (.int .i64 (countP ns : Int)) ∧ Below w.heap.size w w' := by
  have hl := hs.len
  have K0 := Lib.hid (heap_alloc_new w (.cells (Bv ns) 28))
  have HL := Lib.hid hl
  clear hl
  go_enter Try.func13, Try.ntmps13
  go_wp2_with (first | (refine load_set rfl (.tmp 1) 28 rfl w.heap.size rfl 28 ns hs 5 Try.underlying28 size28 ?_ ?_))
  · exact K0.out
  · go_loop [3, 7] (fun n i => ∃ k : Nat, k ≤ 30 ∧ i = .int .i64 k ∧ n = .int .i64 (countP (ns.take k) : Int)) (fun _ i => 30 - (intOf i).toNat)
    case atStart => exact ⟨0, by omega, rfl, rfl⟩
    case round =>
      obtain ⟨k, hk, rfl, rfl⟩ := hrel
      have hsm := countP_small (ns := ns) k (by rw [HL.out]; exact hk) HL.out
      by_cases hlt : k < 30
      · obtain ⟨b, hb⟩ : ∃ b, b = ns.getD k 0 := ⟨_, rfl⟩
        have hbl : b < 256 := hb ▸ hs.getD_lt _
        have HE := Lib.hid (show countP (ns.take (k + 1)) = countP (ns.take k) + pop b by rw [countP_take k (by rw [HL.out]; exact hlt), hb])
        have hp := pop_le b
        have HC := Lib.hid hb.symm
        clear hb
        go_wp2_with (first | (go_at_call 20; refine (ones_any _ hbl _).mono ?_; rintro e w' ⟨rfl, rfl⟩) | (refine index_set rfl (.tmp 6) (.tmp 7) 28 rfl ns hs rfl k hlt rfl 5 Try.underlying28 Try.underlying5 size5 b HC.out ?_))
        go_round
        case rel => exact ⟨k + 1, by omega, by go_num, by rw [HE.out]; go_num⟩
        case measure => simp [intOf]; omega
      · have hk30 : k = 30 := by omega
        subst hk30
        go_wp2
        go_ret
        exact ⟨ret_int (by rw [List.take_of_length_le (by rw [HL.out]; omega)]), (Below.refl _ _).alloc (Nat.le_refl _) _⟩

end Go.Proofs.Ytkeoghekeapgaaa
