/-
  The contracts of bits.may, bits.bit, bits.Has, bits.With, bits.Without: each returns what the plain functions of Sets say, and writes nothing that was there.
  Conditions: the array's thirty bytes are written as a list of thirty numbers below 256.
-/
import Derived.Test.YtkeoghekeapgaaaRows
import Derived.Test.YtkeoghekeapgaaaSets
import Derived.WalkKit
import Derived.WalkSpells
import Derived.WalkLawsBesides
import Derived.BigQuiet
import Derived.Deep.QuietTactic
import Derived.StillTailTactics
import Derived.Lib.Hide
import Derived.IntWalk
namespace Go.Proofs.Ytkeoghekeapgaaa
open Go.RowKit

/-- A number's bit in its byte. -/
def bitOf (n : Int) : Nat := 2 ^ (n.toNat % 8)
theorem bitOf_lt (n : Int) : bitOf n < 256 := pow_lt (by omega)
theorem size28 : (Try.prog.info? 28).map (·.size) = some 30 := by kernel_rfl

theorem ret_int {k : IntKind} {a b : Int} (h : a = b) : Ending.returned (.int k a) = .returned (.int k b) := by rw [h]
theorem ret_bool {a b : Bool} (h : a = b) : Ending.returned (.bool a) = .returned (.bool b) := by rw [h]

theorem quiet_eq {P : Program} {f : FuncId} {args : Array Value} {w : World} {n : Nat} {v : Value}
    (h : Calls P f args (w.drewN n) fun e w' => e = .returned v ∧ w.drewN n = w') : Calls P f args (w.drewN n) fun e w'' => e = .returned v ∧ ∃ m, w'' = w.drewN m :=
  h.mono fun _ _ ⟨he, hm⟩ => ⟨he, n, hm.symm⟩

set_option maxHeartbeats 400000 in
theorem may_any (n : Int) (w : World) :
    Calls Try.prog 18 #[.int .i64 n] w fun e w' => e = .returned (.bool (inB n)) ∧ w = w' := by
  go_enter Try.func18, Try.ntmps18
  go_wp2
  all_goals
    go_ret
    exact ⟨ret_bool (by unfold inB; simp; omega), rfl⟩

theorem may_is (n : Int) (b : Bool) (h : inB n = b) (w : World) :
    Calls Try.prog 18 #[.int .i64 n] w fun e w' => e = .returned (.bool b) ∧ w = w' := h ▸ may_any n w

/-- A number's bit. -/
theorem pow_in {n : Int} (h0 : 0 ≤ n) : (2 ^ (n % 8).toNat % 256 : Int) = ((bitOf n : Nat) : Int) := by
  have h1 : (n % 8).toNat = n.toNat % 8 := by omega
  have h2 := pow_lt (k := n.toNat % 8) (by omega)
  rw [h1]
  unfold bitOf
  generalize n.toNat % 8 = k at h2
  have h3 : ((2 ^ k : Nat) : Int) = 2 ^ k := by simp
  rw [← h3]
  exact Int.emod_eq_of_lt (Int.natCast_nonneg _) (Int.ofNat_lt.2 h2)

set_option maxHeartbeats 400000 in
theorem bit_in (n : Int) (w : World) (h0 : 0 ≤ n) :
    Calls Try.prog 19 #[.int .i64 n] w fun e w' => e = .returned (.int .u8 ((bitOf n : Nat) : Int)) ∧ w = w' := by
  have H := Lib.hid (pow_in h0)
  go_enter Try.func19, Try.ntmps19
  go_wp2
  go_ret
  exact ⟨ret_int H.out, rfl⟩

theorem region_tail {P : Program} {id : Nat} {Q : Exit → Act → World → Prop} {a : Act} {w : World} {l : List Oper} (n : Nat) (hm : P.follows .mixedOrders = true) (hB : Region.lexTailB .any l.toArray n = true)
    (W : World) (hW : w.drew = W) (h : wpStill P l.toArray W (fun a' => wpList P l.toArray Q (l.drop n) a' W) (l.take n) a) : (Code.region id l.toArray true).wp P Q a w := by
  subst hW
  exact wp_region_still_tail n hm hB h

theorem still_eq {P : Program} {f : FuncId} {args : Array Value} {w : World} {v : Value}
    (h : Calls P f args w fun e w' => e = .returned v ∧ w = w') : Calls P f args w fun e w'' => e = .returned v ∧ w'' = w :=
  h.mono fun _ _ ⟨he, hm⟩ => ⟨he, hm.symm⟩

theorem below_setRow {B : Nat} {a w : World} (h : Below B a w) {g : Nat} (hg : B ≤ g) (cs : Array Value) : Below B a (w.setRow g cs) :=
  h.trans ⟨rfl, rfl, rfl, by simp, fun k hk => setRow_other w g k cs (by omega)⟩

/-- The zero set. -/
def Z30 : Array Value := (List.replicate 30 (Value.int .u8 0)).toArray

/-- Bytes as an array's cells. -/
def Bv (ns : List Nat) : Array Value := (ns.map fun (b : Nat) => Value.int .u8 (b : Int)).toArray

theorem Bv_size (ns : List Nat) : (Bv ns).size = ns.length := by simp [Bv]
theorem Bv_at {ns : List Nat} {i : Nat} (h : i < ns.length) : (Bv ns)[i]? = some (.int .u8 ((ns.getD i 0 : Nat) : Int)) := by
  simp [Bv, List.getElem?_eq_getElem h]
theorem Bv_set (ns : List Nat) (i b : Nat) : (Bv ns).setIfInBounds i (.int .u8 (b : Int)) = Bv (ns.set i b) := by
  simp [Bv, List.map_set]
theorem Bv_one (ns : List Nat) : (Bv ns).all (·.oneCell') = true := by
  simp [Bv, Value.oneCell']

theorem and_bit {b k : Nat} (hb : b < 256) (hk : k < 8) : (bits BinOp.and IntKind.u8 (b : Int) ((2 ^ k : Nat) : Int) != 0) = b.testBit k := by
  rw [u8_and_nat b _ hb (pow_lt hk)]
  have hz : b &&& 2 ^ k = if b.testBit k then 2 ^ k else 0 := by
    apply Nat.eq_of_testBit_eq
    intro j
    rw [Nat.testBit_and, Nat.testBit_two_pow]
    by_cases e : k = j
    · subst e
      split <;> simp_all
    · split <;> simp [e]
  have hp : 0 < 2 ^ k := Nat.two_pow_pos k
  rw [hz]
  cases b.testBit k
  · rfl
  · simp only [if_true, bne_iff_ne, ne_eq]
    omega

set_option maxHeartbeats 400000 in
theorem has_any (ns : List Nat) (n : Int) (w : World) (hs : Set30 ns) :
    Calls Try.prog 11 #[.agg (Bv ns), .int .i64 n] w fun e w' => e = .returned (.bool (hasP ns n)) ∧ Below w.heap.size w w' := by
  by_cases hn : 0 ≤ n ∧ n < 240
  · obtain ⟨h0, h1⟩ := hn
    have hin : inB n = true := inB_iff.2 ⟨h0, h1⟩
    have h8 : n / 8 < 30 := by omega
    have h9 : 0 ≤ n / 8 := by omega
    have hb : (Bv ns)[(n / 8).toNat]? = some (.int .u8 ((ns.getD (n.toNat / 8) 0 : Nat) : Int)) := by
      rw [Bv_at (by rw [hs.len]; omega), show (n / 8).toNat = n.toNat / 8 by omega]
    have hq : IntKind.i64.wrap (n.tdiv 8) = n / 8 := IntWalk.i64_quo _ _ (by omega)
    have HE := Lib.hid (show hasP ns n = (bits BinOp.and IntKind.u8 ((ns.getD (n.toNat / 8) 0 : Nat) : Int) ((bitOf n : Nat) : Int) != 0) from by
      unfold bitOf; rw [and_bit (hs.getD_lt _) (by omega)]; simp [hasP, hin, mem])
    go_enter Try.func11, Try.ntmps11
    go_wp2_with fail
    go_quiet (first | (go_at_call 18; exact quiet_eq (may_is n true hin _)) | (go_at_call 19; exact quiet_eq (bit_in _ _ h0)))
    go_wp2
    go_ret
    exact ⟨ret_bool HE.out.symm, below_drewN ((Below.refl _ _).alloc (Nat.le_refl _) _) _⟩
  · have hin : inB n = false := by simp [inB]; omega
    have HE := Lib.hid (show hasP ns n = false by simp [hasP, hin])
    clear hn
    go_enter Try.func11, Try.ntmps11
    go_wp2_with fail
    go_quiet ((go_at_call 18; exact quiet_eq (may_is n false hin _)))
    go_wp2
    go_ret
    exact ⟨ret_bool HE.out.symm, below_drewN ((Below.refl _ _).alloc (Nat.le_refl _) _) _⟩



set_option maxHeartbeats 400000 in
theorem with_in (ns : List Nat) (n : Int) (w : World) (hs : Set30 ns) (h0 : 0 ≤ n) (h1 : n < 240) :
    Calls Try.prog 12 #[.agg (Bv ns), .int .i64 n] w fun e w' => e = .returned (.agg (Bv (withP ns n))) ∧ Below w.heap.size w w' := by
  have hin : inB n = true := inB_iff.2 ⟨h0, h1⟩
  have h8 : n / 8 < 30 := by omega
  have h9 : 0 ≤ n / 8 := by omega
  have hk : (n / 8).toNat = n.toNat / 8 := by omega
  obtain ⟨b, hbd⟩ : ∃ b : Nat, b = ns.getD (n.toNat / 8) 0 := ⟨_, rfl⟩
  have hb : (Bv ns)[(n / 8).toNat]? = some (.int .u8 (b : Int)) := by
    rw [Bv_at (by rw [hs.len]; omega), hk, hbd]
  have hq : IntKind.i64.wrap (n.tdiv 8) = n / 8 := IntWalk.i64_quo _ _ (by omega)
  have ho : bits BinOp.or IntKind.u8 (b : Int) ((bitOf n : Nat) : Int) = ((b ||| bitOf n : Nat) : Int) := u8_or_nat _ _ (hbd ▸ hs.getD_lt _) (bitOf_lt n)
  have HP := Lib.hid (show withP ns n = ns.set (n / 8).toNat (b ||| bitOf n) by simp [withP, hin, hk, hbd, bitOf])
  clear hbd hk
  obtain ⟨W, hW⟩ : ∃ W, ((w.alloc (Obj.cells (Bv ns) 28)).alloc (Obj.cells Z30 28)).drew = W := ⟨_, rfl⟩
  have hrow : W.heap[w.heap.size]? = some (.cells (Bv ns) 28 (0, 0)) := by rw [← hW]; exact heap_alloc2_old _ _ _
  have hrow2 : W.heap[w.heap.size + 1]? = some (.cells Z30 28 (0, 0)) := by rw [← hW]; exact heap_alloc2_new _ _ _
  have hcell : W.cell? ⟨w.heap.size, (n / 8).toNat, none⟩ = some (.int .u8 (b : Int)) := by rw [cell_of_row W _ _ _ _ _ hrow]; exact hb
  have hfz : W.frozen? ⟨w.heap.size, (n / 8).toNat, none⟩ = false := frozen_of_row W _ _ _ _ hrow
  have hB : Below w.heap.size w W := by rw [← hW]; exact ((((Below.refl _ _).alloc (Nat.le_refl _) _).alloc (by simp) _)).drew
  have HW := Lib.hid hW
  have hsz : (Try.prog.info? 28).map (·.size) = some (Bv (withP ns n)).size := by rw [Bv_size, (hs.with n).len]; exact size28
  have hsz2 : Z30.size = (Bv (withP ns n)).size := by rw [Bv_size, (hs.with n).len]; rfl
  clear hW
  go_enter Try.func12, Try.ntmps12
  go_wp2_with (go_at_call 18; refine (may_is n true hin _).mono ?_; rintro e w' ⟨rfl, rfl⟩)
  refine region_tail 8 (by kernel_rfl) (by kernel_rfl) W HW.out ?_
  simp only [List.take_succ_cons, List.take_zero, List.drop_succ_cons, List.drop_zero]
  still_step
  still_step
  still_step
  still_step
  still_step
  still_call (still_eq (bit_in n _ h0))
  still_step
  still_step
  refine wpStill_nil ?_
  go_wp2_with (first | (refine wpList_load_row rfl 28 (.tmp 2) rfl w.heap.size rfl 28 (Bv (withP ns n)) (0, 0) _ ?_ Try.underlying28 rfl hsz ?_) | (refine wpList_store_row rfl 28 (.tmp 4) (.tmp 15) rfl (w.heap.size + 1) (Bv (withP ns n)) rfl rfl 28 Z30 ?_ hsz hsz2 (Bv_one _) ?_))
  · rw [heap_setCell_same W _ _ _ _ _ hrow, Bv_set, HP.out]
  · rw [heap_setCell_other _ _ _ _ (by simp)]; exact hrow2
  · refine bodyPost_ret (results_cell_row rfl _ _ (w.heap.size + 1) 28 (Bv (withP ns n)) (0, 0) _ rfl (setRow_heap _ _ Z30 _ _ _ ?_) Try.underlying28 rfl hsz) rfl ⟨rfl, below_setRow (hB.setCell (Nat.le_refl _) _) (by omega) _⟩
    rw [heap_setCell_other _ _ _ _ (by simp)]; exact hrow2

set_option maxHeartbeats 400000 in
theorem with_any (ns : List Nat) (n : Int) (w : World) (hs : Set30 ns) :
    Calls Try.prog 12 #[.agg (Bv ns), .int .i64 n] w fun e w' => e = .returned (.agg (Bv (withP ns n))) ∧ Below w.heap.size w w' := by
  by_cases hn : 0 ≤ n ∧ n < 240
  · exact with_in ns n w hs hn.1 hn.2
  have hin : inB n = false := by simp [inB]; omega
  have hP : withP ns n = ns := by simp [withP, hin]
  rw [hP]
  clear hn hP
  have hsz : (Try.prog.info? 28).map (·.size) = some (Bv ns).size := by rw [Bv_size, hs.len]; exact size28
  have hsz2 : Z30.size = (Bv ns).size := by rw [Bv_size, hs.len]; rfl
  go_enter Try.func12, Try.ntmps12
  go_wp2_with (first | (go_at_call 18; refine (may_is n false hin _).mono ?_; rintro e w' ⟨rfl, rfl⟩) | (refine wpList_load_row rfl 28 (.tmp 2) rfl w.heap.size rfl 28 (Bv ns) (0, 0) _ ?_ Try.underlying28 rfl hsz ?_) | (refine wpList_store_row rfl 28 (.tmp 4) (.tmp 15) rfl (w.heap.size + 1) (Bv ns) rfl rfl 28 Z30 ?_ hsz hsz2 (Bv_one _) ?_))
  · exact heap_alloc2_old _ _ _
  · exact heap_alloc2_new _ _ _
  · exact bodyPost_ret (results_cell_row rfl _ _ (w.heap.size + 1) 28 (Bv ns) (0, 0) _ rfl (setRow_heap _ _ _ _ _ _ (heap_alloc2_new _ _ _)) Try.underlying28 rfl hsz) rfl ⟨rfl, below_setRow (((Below.refl _ _).alloc (Nat.le_refl _) _).alloc (by simp) _) (by omega) _⟩

set_option maxHeartbeats 400000 in
theorem without_in (ns : List Nat) (n : Int) (w : World) (hs : Set30 ns) (h0 : 0 ≤ n) (h1 : n < 240) :
    Calls Try.prog 14 #[.agg (Bv ns), .int .i64 n] w fun e w' => e = .returned (.agg (Bv (withoutP ns n))) ∧ Below w.heap.size w w' := by
  have hin : inB n = true := inB_iff.2 ⟨h0, h1⟩
  have h8 : n / 8 < 30 := by omega
  have h9 : 0 ≤ n / 8 := by omega
  have hk : (n / 8).toNat = n.toNat / 8 := by omega
  obtain ⟨b, hbd⟩ : ∃ b : Nat, b = ns.getD (n.toNat / 8) 0 := ⟨_, rfl⟩
  have hb : (Bv ns)[(n / 8).toNat]? = some (.int .u8 (b : Int)) := by
    rw [Bv_at (by rw [hs.len]; omega), hk, hbd]
  have hq : IntKind.i64.wrap (n.tdiv 8) = n / 8 := IntWalk.i64_quo _ _ (by omega)
  have ho : bits BinOp.andNot IntKind.u8 (b : Int) ((bitOf n : Nat) : Int) = ((b &&& (255 - bitOf n) : Nat) : Int) := u8_andNot_nat _ _ (hbd ▸ hs.getD_lt _) (bitOf_lt n)
  have HP := Lib.hid (show withoutP ns n = ns.set (n / 8).toNat (b &&& (255 - bitOf n)) by simp [withoutP, hin, hk, hbd, bitOf])
  clear hbd hk
  obtain ⟨W, hW⟩ : ∃ W, ((w.alloc (Obj.cells (Bv ns) 28)).alloc (Obj.cells Z30 28)).drew = W := ⟨_, rfl⟩
  have hrow : W.heap[w.heap.size]? = some (.cells (Bv ns) 28 (0, 0)) := by rw [← hW]; exact heap_alloc2_old _ _ _
  have hrow2 : W.heap[w.heap.size + 1]? = some (.cells Z30 28 (0, 0)) := by rw [← hW]; exact heap_alloc2_new _ _ _
  have hcell : W.cell? ⟨w.heap.size, (n / 8).toNat, none⟩ = some (.int .u8 (b : Int)) := by rw [cell_of_row W _ _ _ _ _ hrow]; exact hb
  have hfz : W.frozen? ⟨w.heap.size, (n / 8).toNat, none⟩ = false := frozen_of_row W _ _ _ _ hrow
  have hB : Below w.heap.size w W := by rw [← hW]; exact ((((Below.refl _ _).alloc (Nat.le_refl _) _).alloc (by simp) _)).drew
  have HW := Lib.hid hW
  have hsz : (Try.prog.info? 28).map (·.size) = some (Bv (withoutP ns n)).size := by rw [Bv_size, (hs.without n).len]; exact size28
  have hsz2 : Z30.size = (Bv (withoutP ns n)).size := by rw [Bv_size, (hs.without n).len]; rfl
  clear hW
  go_enter Try.func14, Try.ntmps14
  go_wp2_with (go_at_call 18; refine (may_is n true hin _).mono ?_; rintro e w' ⟨rfl, rfl⟩)
  refine region_tail 8 (by kernel_rfl) (by kernel_rfl) W HW.out ?_
  simp only [List.take_succ_cons, List.take_zero, List.drop_succ_cons, List.drop_zero]
  still_step
  still_step
  still_step
  still_step
  still_step
  still_call (still_eq (bit_in n _ h0))
  still_step
  still_step
  refine wpStill_nil ?_
  go_wp2_with (first | (refine wpList_load_row rfl 28 (.tmp 2) rfl w.heap.size rfl 28 (Bv (withoutP ns n)) (0, 0) _ ?_ Try.underlying28 rfl hsz ?_) | (refine wpList_store_row rfl 28 (.tmp 4) (.tmp 15) rfl (w.heap.size + 1) (Bv (withoutP ns n)) rfl rfl 28 Z30 ?_ hsz hsz2 (Bv_one _) ?_))
  · rw [heap_setCell_same W _ _ _ _ _ hrow, Bv_set, HP.out]
  · rw [heap_setCell_other _ _ _ _ (by simp)]; exact hrow2
  · refine bodyPost_ret (results_cell_row rfl _ _ (w.heap.size + 1) 28 (Bv (withoutP ns n)) (0, 0) _ rfl (setRow_heap _ _ Z30 _ _ _ ?_) Try.underlying28 rfl hsz) rfl ⟨rfl, below_setRow (hB.setCell (Nat.le_refl _) _) (by omega) _⟩
    rw [heap_setCell_other _ _ _ _ (by simp)]; exact hrow2

set_option maxHeartbeats 400000 in
theorem without_any (ns : List Nat) (n : Int) (w : World) (hs : Set30 ns) :
    Calls Try.prog 14 #[.agg (Bv ns), .int .i64 n] w fun e w' => e = .returned (.agg (Bv (withoutP ns n))) ∧ Below w.heap.size w w' := by
  by_cases hn : 0 ≤ n ∧ n < 240
  · exact without_in ns n w hs hn.1 hn.2
  have hin : inB n = false := by simp [inB]; omega
  have hP : withoutP ns n = ns := by simp [withoutP, hin]
  rw [hP]
  clear hn hP
  have hsz : (Try.prog.info? 28).map (·.size) = some (Bv ns).size := by rw [Bv_size, hs.len]; exact size28
  have hsz2 : Z30.size = (Bv ns).size := by rw [Bv_size, hs.len]; rfl
  go_enter Try.func14, Try.ntmps14
  go_wp2_with (first | (go_at_call 18; refine (may_is n false hin _).mono ?_; rintro e w' ⟨rfl, rfl⟩) | (refine wpList_load_row rfl 28 (.tmp 2) rfl w.heap.size rfl 28 (Bv ns) (0, 0) _ ?_ Try.underlying28 rfl hsz ?_) | (refine wpList_store_row rfl 28 (.tmp 4) (.tmp 15) rfl (w.heap.size + 1) (Bv ns) rfl rfl 28 Z30 ?_ hsz hsz2 (Bv_one _) ?_))
  · exact heap_alloc2_old _ _ _
  · exact heap_alloc2_new _ _ _
  · exact bodyPost_ret (results_cell_row rfl _ _ (w.heap.size + 1) 28 (Bv ns) (0, 0) _ rfl (setRow_heap _ _ _ _ _ _ (heap_alloc2_new _ _ _)) Try.underlying28 rfl hsz) rfl ⟨rfl, below_setRow (((Below.refl _ _).alloc (Nat.le_refl _) _).alloc (by simp) _) (by omega) _⟩

end Go.Proofs.Ytkeoghekeapgaaa
