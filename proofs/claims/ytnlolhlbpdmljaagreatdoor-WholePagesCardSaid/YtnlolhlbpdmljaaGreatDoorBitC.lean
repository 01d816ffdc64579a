/-
  The contracts of bits.may, bits.bit, bits.Has, bits.With, bits.Without: each returns what the plain functions of Sets say, and writes nothing that was there. The contracts of math/bits.OnesCount8, bits.Count, bits.Both, bits.First and of the reference's Has: each returns what the plain functions of Sets say, and writes nothing that was there. The contract of bits.First: it returns what the plain functions of Sets say, and writes nothing that was there.
  Conditions: none.
-/
import Derived.Test.YtnlolhlbpdmljaaGreatDoorCrc
import Derived.Test.YtnlolhlbpdmljaaGreatDoorSets
import Derived.WalkKit
import Derived.WalkSpells
import Derived.WalkLawsBesides
import Derived.BigQuiet
import Derived.Deep.QuietTactic
import Derived.StillTailTactics
import Derived.Lib.Hide
import Derived.IntWalk
import Derived.OwnWalk
namespace Go.Proofs.YtnlolhlbpdmljaaGreatDoor
open Go.RowKit

/-- A number's bit in its byte. -/
def bitOf (n : Int) : Nat := 2 ^ (n.toNat % 8)
theorem bitOf_lt (n : Int) : bitOf n < 256 := pow_lt (by omega)
theorem size50 : (Tryz.prog.info? 50).map (·.size) = some 30 := by kernel_rfl


theorem quiet_eq {P : Program} {f : FuncId} {args : Array Value} {w : World} {n : Nat} {v : Value}
    (h : Calls P f args (w.drewN n) fun e w' => e = .returned v ∧ w.drewN n = w') : Calls P f args (w.drewN n) fun e w'' => e = .returned v ∧ ∃ m, w'' = w.drewN m :=
  h.mono fun _ _ ⟨he, hm⟩ => ⟨he, n, hm.symm⟩

set_option maxRecDepth 100000 in
set_option maxHeartbeats 400000 in
theorem may_any (n : Int) (w : World) :
    Calls Tryz.prog 35 #[.int .i64 n] w fun e w' => e = .returned (.bool (inB n)) ∧ w = w' := by
  go_enter Tryz.func35, Tryz.ntmps35
  go_wp2
  all_goals
    go_ret
    exact ⟨ret_bool (by unfold inB; simp; omega), rfl⟩

theorem may_is (n : Int) (b : Bool) (h : inB n = b) (w : World) :
    Calls Tryz.prog 35 #[.int .i64 n] w fun e w' => e = .returned (.bool b) ∧ w = w' := h ▸ may_any n w

/-- A number's bit. -/
theorem pow_in {n : Int} (h0 : 0 ≤ n) : (2 ^ (n % 8).toNat % 256 : Int) = ((bitOf n : Nat) : Int) := by
  have h1 : (n % 8).toNat = n.toNat % 8 := by omega
  have h2 := pow_lt (k := n.toNat % 8) (by omega)
  rw [h1]
  unfold bitOf
  generalize n.toNat % 8 = k at h2
  have h3 : ((2 ^ k : Nat) : Int) = 2 ^ k := by simp
  rw [← h3]
  exact Int.emod_eq_of_lt (Int.natCast_nonneg _) (Int.ofNat_lt.2 h2)

set_option maxRecDepth 100000 in
set_option maxHeartbeats 400000 in
theorem bit_in (n : Int) (w : World) (h0 : 0 ≤ n) :
    Calls Tryz.prog 36 #[.int .i64 n] w fun e w' => e = .returned (.int .u8 ((bitOf n : Nat) : Int)) ∧ w = w' := by
  have H := Lib.hid (pow_in h0)
  go_enter Tryz.func36, Tryz.ntmps36
  go_wp2
  go_ret
  exact ⟨ret_int H.out, rfl⟩

theorem still_eq {P : Program} {f : FuncId} {args : Array Value} {w : World} {v : Value}
    (h : Calls P f args w fun e w' => e = .returned v ∧ w = w') : Calls P f args w fun e w'' => e = .returned v ∧ w'' = w :=
  h.mono fun _ _ ⟨he, hm⟩ => ⟨he, hm.symm⟩

theorem below_setRow {B : Nat} {a w : World} (h : Below B a w) {g : Nat} (hg : B ≤ g) (cs : Array Value) : Below B a (w.setRow g cs) :=
  h.trans ⟨rfl, rfl, rfl, by simp, fun k hk => setRow_other w g k cs (by omega)⟩

/-- The zero set. -/
def Z30 : Array Value := (List.replicate 30 (Value.int .u8 0)).toArray

/-- Bytes as an array's cells. -/
def Bv (ns : List Nat) : Array Value := (ns.map fun (b : Nat) => Value.int .u8 (b : Int)).toArray

theorem Bv_size (ns : List Nat) : (Bv ns).size = ns.length := by simp [Bv]
theorem Bv_at {ns : List Nat} {i : Nat} (h : i < ns.length) : (Bv ns)[i]? = some (.int .u8 ((ns.getD i 0 : Nat) : Int)) := by
  simp [Bv, List.getElem?_eq_getElem h]
theorem Bv_set (ns : List Nat) (i b : Nat) : (Bv ns).setIfInBounds i (.int .u8 (b : Int)) = Bv (ns.set i b) := by
  simp [Bv, List.map_set]
theorem Bv_one (ns : List Nat) : (Bv ns).all (·.oneCell') = true := by
  simp [Bv, Value.oneCell']

theorem and_bit {b k : Nat} (hb : b < 256) (hk : k < 8) : (bits BinOp.and IntKind.u8 (b : Int) ((2 ^ k : Nat) : Int) != 0) = b.testBit k := by
  rw [u8_and_nat b _ hb (pow_lt hk)]
  have hz : b &&& 2 ^ k = if b.testBit k then 2 ^ k else 0 := by
    apply Nat.eq_of_testBit_eq
    intro j
    rw [Nat.testBit_and, Nat.testBit_two_pow]
    by_cases e : k = j
    · subst e
      split <;> simp_all
    · split <;> simp [e]
  have hp : 0 < 2 ^ k := Nat.two_pow_pos k
  rw [hz]
  cases b.testBit k
  · rfl
  · simp only [if_true, bne_iff_ne, ne_eq]
    omega

set_option maxRecDepth 100000 in
set_option maxHeartbeats 400000 in
theorem has_any (ns : List Nat) (n : Int) (w : World) (hs : Set30 ns) :
    Calls Tryz.prog 17 #[.agg (Bv ns), .int .i64 n] w fun e w' => e = .returned (.bool (hasP ns n)) ∧ Below w.heap.size w w' := by
  by_cases hn : 0 ≤ n ∧ n < 240
  · obtain ⟨h0, h1⟩ := hn
    have hin : inB n = true := inB_iff.2 ⟨h0, h1⟩
    have h8 : n / 8 < 30 := by omega
    have h9 : 0 ≤ n / 8 := by omega
    have hb : (Bv ns)[(n / 8).toNat]? = some (.int .u8 ((ns.getD (n.toNat / 8) 0 : Nat) : Int)) := by
      rw [Bv_at (by rw [hs.len]; omega), show (n / 8).toNat = n.toNat / 8 by omega]
    have hq : IntKind.i64.wrap (n.tdiv 8) = n / 8 := IntWalk.i64_quo _ _ (by omega)
    have HE := Lib.hid (show hasP ns n = (bits BinOp.and IntKind.u8 ((ns.getD (n.toNat / 8) 0 : Nat) : Int) ((bitOf n : Nat) : Int) != 0) from by
      unfold bitOf; rw [and_bit (hs.getD_lt _) (by omega)]; simp [hasP, hin, mem])
    go_enter Tryz.func17, Tryz.ntmps17
    go_wp2_with fail
    go_quiet (first | (go_at_call 35; exact quiet_eq (may_is n true hin _)) | (go_at_call 36; exact quiet_eq (bit_in _ _ h0)))
    go_wp2
    go_ret
    exact ⟨ret_bool HE.out.symm, below_drewN ((Below.refl _ _).alloc (Nat.le_refl _) _) _⟩
  · have hin : inB n = false := by simp [inB]; omega
    have HE := Lib.hid (show hasP ns n = false by simp [hasP, hin])
    clear hn
    go_enter Tryz.func17, Tryz.ntmps17
    go_wp2_with fail
    go_quiet ((go_at_call 35; exact quiet_eq (may_is n false hin _)))
    go_wp2
    go_ret
    exact ⟨ret_bool HE.out.symm, below_drewN ((Below.refl _ _).alloc (Nat.le_refl _) _) _⟩



set_option maxRecDepth 100000 in
set_option maxHeartbeats 400000 in
theorem with_in (ns : List Nat) (n : Int) (w : World) (hs : Set30 ns) (h0 : 0 ≤ n) (h1 : n < 240) :
    Calls Tryz.prog 84 #[.agg (Bv ns), .int .i64 n] w fun e w' => e = .returned (.agg (Bv (withP ns n))) ∧ Below w.heap.size w w' := by
  have hin : inB n = true := inB_iff.2 ⟨h0, h1⟩
  have h8 : n / 8 < 30 := by omega
  have h9 : 0 ≤ n / 8 := by omega
  have hk : (n / 8).toNat = n.toNat / 8 := by omega
  obtain ⟨b, hbd⟩ : ∃ b : Nat, b = ns.getD (n.toNat / 8) 0 := ⟨_, rfl⟩
  have hb : (Bv ns)[(n / 8).toNat]? = some (.int .u8 (b : Int)) := by
    rw [Bv_at (by rw [hs.len]; omega), hk, hbd]
  have hq : IntKind.i64.wrap (n.tdiv 8) = n / 8 := IntWalk.i64_quo _ _ (by omega)
  have ho : bits BinOp.or IntKind.u8 (b : Int) ((bitOf n : Nat) : Int) = ((b ||| bitOf n : Nat) : Int) := u8_or_nat _ _ (hbd ▸ hs.getD_lt _) (bitOf_lt n)
  have HP := Lib.hid (show withP ns n = ns.set (n / 8).toNat (b ||| bitOf n) by simp [withP, hin, hk, hbd, bitOf])
  clear hbd hk
  obtain ⟨W, hW⟩ : ∃ W, ((w.alloc (Obj.cells (Bv ns) 50)).alloc (Obj.cells Z30 50)).drew = W := ⟨_, rfl⟩
  have hrow : W.heap[w.heap.size]? = some (.cells (Bv ns) 50 (0, 0)) := by rw [← hW]; exact heap_alloc2_old _ _ _
  have hrow2 : W.heap[w.heap.size + 1]? = some (.cells Z30 50 (0, 0)) := by rw [← hW]; exact heap_alloc2_new _ _ _
  have hcell : W.cell? ⟨w.heap.size, (n / 8).toNat, none⟩ = some (.int .u8 (b : Int)) := by rw [cell_of_row W _ _ _ _ _ hrow]; exact hb
  have hfz : W.frozen? ⟨w.heap.size, (n / 8).toNat, none⟩ = false := frozen_of_row W _ _ _ _ hrow
  have hB : Below w.heap.size w W := by rw [← hW]; exact ((((Below.refl _ _).alloc (Nat.le_refl _) _).alloc (by simp) _)).drew
  have HW := Lib.hid hW
  have hsz : (Tryz.prog.info? 50).map (·.size) = some (Bv (withP ns n)).size := by rw [Bv_size, (hs.with n).len]; exact size50
  have hsz2 : Z30.size = (Bv (withP ns n)).size := by rw [Bv_size, (hs.with n).len]; rfl
  clear hW
  go_enter Tryz.func84, Tryz.ntmps84
  go_wp2_with (go_at_call 35; refine (may_is n true hin _).mono ?_; rintro e w' ⟨rfl, rfl⟩)
  refine region_tail 8 (by kernel_rfl) (by kernel_rfl) W HW.out ?_
  simp only [List.take_succ_cons, List.take_zero, List.drop_succ_cons, List.drop_zero]
  still_step
  still_step
  still_step
  still_step
  still_step
  still_call (still_eq (bit_in n _ h0))
  still_step
  still_step
  refine wpStill_nil ?_
  go_wp2_with (first | (refine wpList_load_row rfl 50 (.tmp 2) rfl w.heap.size rfl 50 (Bv (withP ns n)) (0, 0) _ ?_ Tryz.underlying50 rfl hsz ?_) | (refine wpList_store_row rfl 50 (.tmp 4) (.tmp 15) rfl (w.heap.size + 1) (Bv (withP ns n)) rfl rfl 50 Z30 ?_ hsz hsz2 (Bv_one _) ?_))
  · rw [heap_setCell_same W _ _ _ _ _ hrow, Bv_set, HP.out]
  · rw [heap_setCell_other _ _ _ _ (by simp)]; exact hrow2
  · refine bodyPost_ret (results_cell_row rfl _ _ (w.heap.size + 1) 50 (Bv (withP ns n)) (0, 0) _ rfl (setRow_heap _ _ Z30 _ _ _ ?_) Tryz.underlying50 rfl hsz) rfl ⟨rfl, below_setRow (hB.setCell (Nat.le_refl _) _) (by omega) _⟩
    rw [heap_setCell_other _ _ _ _ (by simp)]; exact hrow2

set_option maxRecDepth 100000 in
set_option maxHeartbeats 400000 in
theorem with_any (ns : List Nat) (n : Int) (w : World) (hs : Set30 ns) :
    Calls Tryz.prog 84 #[.agg (Bv ns), .int .i64 n] w fun e w' => e = .returned (.agg (Bv (withP ns n))) ∧ Below w.heap.size w w' := by
  by_cases hn : 0 ≤ n ∧ n < 240
  · exact with_in ns n w hs hn.1 hn.2
  have hin : inB n = false := by simp [inB]; omega
  have hP : withP ns n = ns := by simp [withP, hin]
  rw [hP]
  clear hn hP
  have hsz : (Tryz.prog.info? 50).map (·.size) = some (Bv ns).size := by rw [Bv_size, hs.len]; exact size50
  have hsz2 : Z30.size = (Bv ns).size := by rw [Bv_size, hs.len]; rfl
  go_enter Tryz.func84, Tryz.ntmps84
  go_wp2_with (first | (go_at_call 35; refine (may_is n false hin _).mono ?_; rintro e w' ⟨rfl, rfl⟩) | (refine wpList_load_row rfl 50 (.tmp 2) rfl w.heap.size rfl 50 (Bv ns) (0, 0) _ ?_ Tryz.underlying50 rfl hsz ?_) | (refine wpList_store_row rfl 50 (.tmp 4) (.tmp 15) rfl (w.heap.size + 1) (Bv ns) rfl rfl 50 Z30 ?_ hsz hsz2 (Bv_one _) ?_))
  · exact heap_alloc2_old _ _ _
  · exact heap_alloc2_new _ _ _
  · exact bodyPost_ret (results_cell_row rfl _ _ (w.heap.size + 1) 50 (Bv ns) (0, 0) _ rfl (setRow_heap _ _ _ _ _ _ (heap_alloc2_new _ _ _)) Tryz.underlying50 rfl hsz) rfl ⟨rfl, below_setRow (((Below.refl _ _).alloc (Nat.le_refl _) _).alloc (by simp) _) (by omega) _⟩

set_option maxRecDepth 100000 in
set_option maxHeartbeats 400000 in
theorem without_in (ns : List Nat) (n : Int) (w : World) (hs : Set30 ns) (h0 : 0 ≤ n) (h1 : n < 240) :
    Calls Tryz.prog 61 #[.agg (Bv ns), .int .i64 n] w fun e w' => e = .returned (.agg (Bv (withoutP ns n))) ∧ Below w.heap.size w w' := by
  have hin : inB n = true := inB_iff.2 ⟨h0, h1⟩
  have h8 : n / 8 < 30 := by omega
  have h9 : 0 ≤ n / 8 := by omega
  have hk : (n / 8).toNat = n.toNat / 8 := by omega
  obtain ⟨b, hbd⟩ : ∃ b : Nat, b = ns.getD (n.toNat / 8) 0 := ⟨_, rfl⟩
  have hb : (Bv ns)[(n / 8).toNat]? = some (.int .u8 (b : Int)) := by
    rw [Bv_at (by rw [hs.len]; omega), hk, hbd]
  have hq : IntKind.i64.wrap (n.tdiv 8) = n / 8 := IntWalk.i64_quo _ _ (by omega)
  have ho : bits BinOp.andNot IntKind.u8 (b : Int) ((bitOf n : Nat) : Int) = ((b &&& (255 - bitOf n) : Nat) : Int) := u8_andNot_nat _ _ (hbd ▸ hs.getD_lt _) (bitOf_lt n)
  have HP := Lib.hid (show withoutP ns n = ns.set (n / 8).toNat (b &&& (255 - bitOf n)) by simp [withoutP, hin, hk, hbd, bitOf])
  clear hbd hk
  obtain ⟨W, hW⟩ : ∃ W, ((w.alloc (Obj.cells (Bv ns) 50)).alloc (Obj.cells Z30 50)).drew = W := ⟨_, rfl⟩
  have hrow : W.heap[w.heap.size]? = some (.cells (Bv ns) 50 (0, 0)) := by rw [← hW]; exact heap_alloc2_old _ _ _
  have hrow2 : W.heap[w.heap.size + 1]? = some (.cells Z30 50 (0, 0)) := by rw [← hW]; exact heap_alloc2_new _ _ _
  have hcell : W.cell? ⟨w.heap.size, (n / 8).toNat, none⟩ = some (.int .u8 (b : Int)) := by rw [cell_of_row W _ _ _ _ _ hrow]; exact hb
  have hfz : W.frozen? ⟨w.heap.size, (n / 8).toNat, none⟩ = false := frozen_of_row W _ _ _ _ hrow
  have hB : Below w.heap.size w W := by rw [← hW]; exact ((((Below.refl _ _).alloc (Nat.le_refl _) _).alloc (by simp) _)).drew
  have HW := Lib.hid hW
  have hsz : (Tryz.prog.info? 50).map (·.size) = some (Bv (withoutP ns n)).size := by rw [Bv_size, (hs.without n).len]; exact size50
  have hsz2 : Z30.size = (Bv (withoutP ns n)).size := by rw [Bv_size, (hs.without n).len]; rfl
  clear hW
  go_enter Tryz.func61, Tryz.ntmps61
  go_wp2_with (go_at_call 35; refine (may_is n true hin _).mono ?_; rintro e w' ⟨rfl, rfl⟩)
  refine region_tail 8 (by kernel_rfl) (by kernel_rfl) W HW.out ?_
  simp only [List.take_succ_cons, List.take_zero, List.drop_succ_cons, List.drop_zero]
  still_step
  still_step
  still_step
  still_step
  still_step
  still_call (still_eq (bit_in n _ h0))
  still_step
  still_step
  refine wpStill_nil ?_
  go_wp2_with (first | (refine wpList_load_row rfl 50 (.tmp 2) rfl w.heap.size rfl 50 (Bv (withoutP ns n)) (0, 0) _ ?_ Tryz.underlying50 rfl hsz ?_) | (refine wpList_store_row rfl 50 (.tmp 4) (.tmp 15) rfl (w.heap.size + 1) (Bv (withoutP ns n)) rfl rfl 50 Z30 ?_ hsz hsz2 (Bv_one _) ?_))
  · rw [heap_setCell_same W _ _ _ _ _ hrow, Bv_set, HP.out]
  · rw [heap_setCell_other _ _ _ _ (by simp)]; exact hrow2
  · refine bodyPost_ret (results_cell_row rfl _ _ (w.heap.size + 1) 50 (Bv (withoutP ns n)) (0, 0) _ rfl (setRow_heap _ _ Z30 _ _ _ ?_) Tryz.underlying50 rfl hsz) rfl ⟨rfl, below_setRow (hB.setCell (Nat.le_refl _) _) (by omega) _⟩
    rw [heap_setCell_other _ _ _ _ (by simp)]; exact hrow2

set_option maxRecDepth 100000 in
set_option maxHeartbeats 400000 in
theorem without_any (ns : List Nat) (n : Int) (w : World) (hs : Set30 ns) :
    Calls Tryz.prog 61 #[.agg (Bv ns), .int .i64 n] w fun e w' => e = .returned (.agg (Bv (withoutP ns n))) ∧ Below w.heap.size w w' := by
  by_cases hn : 0 ≤ n ∧ n < 240
  · exact without_in ns n w hs hn.1 hn.2
  have hin : inB n = false := by simp [inB]; omega
  have hP : withoutP ns n = ns := by simp [withoutP, hin]
  rw [hP]
  clear hn hP
  have hsz : (Tryz.prog.info? 50).map (·.size) = some (Bv ns).size := by rw [Bv_size, hs.len]; exact size50
  have hsz2 : Z30.size = (Bv ns).size := by rw [Bv_size, hs.len]; rfl
  go_enter Tryz.func61, Tryz.ntmps61
  go_wp2_with (first | (go_at_call 35; refine (may_is n false hin _).mono ?_; rintro e w' ⟨rfl, rfl⟩) | (refine wpList_load_row rfl 50 (.tmp 2) rfl w.heap.size rfl 50 (Bv ns) (0, 0) _ ?_ Tryz.underlying50 rfl hsz ?_) | (refine wpList_store_row rfl 50 (.tmp 4) (.tmp 15) rfl (w.heap.size + 1) (Bv ns) rfl rfl 50 Z30 ?_ hsz hsz2 (Bv_one _) ?_))
  · exact heap_alloc2_old _ _ _
  · exact heap_alloc2_new _ _ _
  · exact bodyPost_ret (results_cell_row rfl _ _ (w.heap.size + 1) 50 (Bv ns) (0, 0) _ rfl (setRow_heap _ _ _ _ _ _ (heap_alloc2_new _ _ _)) Tryz.underlying50 rfl hsz) rfl ⟨rfl, below_setRow (((Below.refl _ _).alloc (Nat.le_refl _) _).alloc (by simp) _) (by omega) _⟩

end Go.Proofs.YtnlolhlbpdmljaaGreatDoor
namespace Go.Proofs.YtnlolhlbpdmljaaGreatDoor
open Go.RowKit

def tabA : Array UInt8 := #[0, 1, 1, 2, 1, 2, 2, 3, 1, 2, 2, 3, 2, 3, 3, 4, 1, 2, 2, 3, 2, 3, 3, 4, 2, 3, 3, 4, 3, 4, 4, 5, 1, 2, 2, 3, 2, 3, 3, 4, 2, 3, 3, 4, 3, 4, 4, 5, 2, 3, 3, 4, 3, 4, 4, 5, 3, 4, 4, 5, 4, 5, 5, 6, 1, 2, 2, 3, 2, 3, 3, 4, 2, 3, 3, 4, 3, 4, 4, 5, 2, 3, 3, 4, 3, 4, 4, 5, 3, 4, 4, 5, 4, 5, 5, 6, 2, 3, 3, 4, 3, 4, 4, 5, 3, 4, 4, 5, 4, 5, 5, 6, 3, 4, 4, 5, 4, 5, 5, 6, 4, 5, 5, 6, 5, 6, 6, 7, 1, 2, 2, 3, 2, 3, 3, 4, 2, 3, 3, 4, 3, 4, 4, 5, 2, 3, 3, 4, 3, 4, 4, 5, 3, 4, 4, 5, 4, 5, 5, 6, 2, 3, 3, 4, 3, 4, 4, 5, 3, 4, 4, 5, 4, 5, 5, 6, 3, 4, 4, 5, 4, 5, 5, 6, 4, 5, 5, 6, 5, 6, 6, 7, 2, 3, 3, 4, 3, 4, 4, 5, 3, 4, 4, 5, 4, 5, 5, 6, 3, 4, 4, 5, 4, 5, 5, 6, 4, 5, 5, 6, 5, 6, 6, 7, 3, 4, 4, 5, 4, 5, 5, 6, 4, 5, 5, 6, 5, 6, 6, 7, 4, 5, 5, 6, 5, 6, 6, 7, 5, 6, 6, 7, 6, 7, 7, 8]
theorem tab_fin : ∀ b : Fin 256, (tabA[b.val]?.getD 0).toNat = pop b.val := by decide +kernel
theorem tab_at (b : Nat) (h : b < (ByteArray.mk tabA).size) (hb : b < 256) : wrap64 (((ByteArray.mk tabA)[b]'h).toNat : Int) = (pop b : Int) := by
  have h1 := tab_fin ⟨b, hb⟩
  have h2 : tabA[b]?.getD 0 = (ByteArray.mk tabA)[b]'h := by
    rw [Array.getElem?_eq_getElem (by exact h)]; rfl
  rw [← h2]
  have := pop_le b
  simp only at h1
  rw [h1]
  exact IntWalk.wrap64_in _ (by omega)

set_option maxRecDepth 100000 in
set_option maxRecDepth 100000 in
set_option maxHeartbeats 400000 in
theorem ones_any (b : Nat) (hb : b < 256) (w : World) :
    Calls Tryz.prog 34 #[.int .u8 (b : Int)] w fun e w' => e = .returned (.int .i64 (pop b : Int)) ∧ w = w' := by
  go_enter Tryz.func34, Tryz.ntmps34
  go_wp2
  go_ret
  exact ⟨ret_int (tab_at b _ hb), rfl⟩

section
variable {P : Program} {ops : Array Oper} {rest : List Oper} {o : Oper} {a : Act} {w : World} {Q : Exit → Act → World → Prop}
/-- A whole set out of a variable. -/
theorem load_set (hw : Region.wanted o (yielded ops a.tmps) = true) (x : Operand) (ty : TypeId) (ho : o.op = .load ty x) (g : Nat) (hx : a.eval x = .pointer (some ⟨g, 0, none⟩)) (t : TypeId) (ns : List Nat) (hs : Set30 ns) (e : TypeId)
    (hu : P.underlying ty = some (.array 30 e)) (hi : (P.info? ty).map (·.size) = some 30) (hg : w.heap[g]? = some (.cells (Bv ns) t (0, 0)))
    (h : wpList P ops Q rest (a.put o.dst (.agg (Bv ns))) w) : wpList P ops Q (o :: rest) a w :=
  wpList_step fun K hK => by
    rw [if_pos hw]
    exact wp_load_row ty x ho g hx t (Bv ns) (0, 0) _ hg hu rfl (by rw [Bv_size, hs.len]; exact hi) (hK _ _ h)

/-- A byte of a set, by its place. -/
theorem index_set (hgd : o.guard = none) (x i : Operand) (ty : TypeId) (ho : o.op = .index ty x i) (ns : List Nat) (hs : Set30 ns) (hx : a.eval x = .agg (Bv ns)) (k : Nat) (hk : k < 30) (hi : a.eval i = .int .i64 (k : Int))
    (e : TypeId) (hu : P.underlying ty = some (.array 30 e)) (hue : P.underlying e = some (.int .u8)) (hse : (P.info? e).map (·.size) = some 1) (b : Nat) (hb : ns.getD k 0 = b)
    (h : wpList P ops Q rest (a.put o.dst (.int .u8 (b : Int))) w) : wpList P ops Q (o :: rest) a w := by
  refine wpList_plain hgd fun K hK => ?_
  have hat : (Bv ns)[k]? = some (.int .u8 (b : Int)) := by rw [Bv_at (by rw [hs.len]; exact hk), hb]
  cases hq : P.info? e with
  | none => simp [hq] at hse
  | some ie =>
    have hs1 : ie.size = 1 := by simpa [hq] using hse
    have hrun : (Instr.index ty (.agg (Bv ns)) (.int .i64 (k : Int))).run P w = .ok (.int .u8 (b : Int)) w := by
      simp [Instr.index, asIntOf, Sem.run_bind, run_underlying hu, run_underlying hue, part, isAgg, sizeOf, typeInfo, hq, hs1, hat, hk]
    unfold Oper.wp execOp
    simp only [ho, hx, hi, Sem.run_bind, hrun, Result.andThen_ok]
    exact hK _ _ h

/-- A whole set into a variable. -/
theorem store_set (hgd : o.guard = none) (x y : Operand) (ty : TypeId) (ho : o.op = .store ty x y) (g : Nat) (ns : List Nat) (hx : a.eval x = .pointer (some ⟨g, 0, none⟩)) (hy : a.eval y = .agg (Bv ns)) (hs : Set30 ns)
    (t : TypeId) (old : Array Value) (hi : (P.info? ty).map (·.size) = some 30) (ho' : old.size = 30) (hg : w.heap[g]? = some (.cells old t (0, 0)))
    (h : wpList P ops Q rest (a.put o.dst undef) (w.setRow g (Bv ns))) : wpList P ops Q (o :: rest) a w :=
  wpList_store_row hgd ty x y ho g (Bv ns) hx hy t old hg (by rw [Bv_size, hs.len]; exact hi) (by rw [Bv_size, hs.len]; exact ho') (Bv_one _) h
end

theorem results_set {P : Program} {fn : Func} {p : Tmp} {ty : TypeId} (h : fn.results = #[.cell p ty]) (tmps : Array Value) (w : World) (g : Nat) (t : TypeId) (ns : List Nat) (e : TypeId) (hs : Set30 ns)
    (hp : tmps.getD p undef = .pointer (some ⟨g, 0, none⟩)) (hg : w.heap[g]? = some (.cells (Bv ns) t (0, 0)))
    (hu : P.underlying ty = some (.array 30 e)) (hi : (P.info? ty).map (·.size) = some 30) :
    (results fn tmps).run P w = .ok (.agg (Bv ns)) w :=
  results_cell_row h tmps w g t (Bv ns) (0, 0) _ hp hg hu rfl (by rw [Bv_size, hs.len]; exact hi)

theorem size22 : (Tryz.prog.info? 50).map (·.size) = some 30 := by kernel_rfl
theorem size5 : (Tryz.prog.info? 5).map (·.size) = some 1 := by kernel_rfl
theorem Z30_size : Z30.size = 30 := rfl

theorem Bv_put (ns : List Nat) (k b : Nat) : (Bv ns).setIfInBounds k (.int .u8 (b : Int)) = Bv (ns.set k b) := Bv_set ns k b

set_option maxRecDepth 100000 in
set_option maxHeartbeats 400000 in
theorem both_any (s t : List Nat) (hs : Set30 s) (ht : Set30 t) (w : World) :
    Calls Tryz.prog 60 #[.agg (Bv s), .agg (Bv t)] w fun e w' => e = .returned (.agg (Bv (bothP s t))) ∧ Below w.heap.size w w' := by
  have hB0 : Below w.heap.size w (((w.alloc (.cells (Bv s) 50)).alloc (.cells (Bv t) 50)).alloc (.cells Z30 50)) := (((Below.refl _ _).alloc (Nat.le_refl _) _).alloc (by simp) _).alloc (by simp; omega) _
  have H0 : (((w.alloc (.cells (Bv s) 50)).alloc (.cells (Bv t) 50)).alloc (.cells Z30 50)).heap[w.heap.size]? = some (.cells (Bv s) 50 (0, 0)) := by
    rw [Go.heap_alloc_old _ _ (by simp; omega)]; exact heap_alloc2_old _ _ _
  have H1 : (((w.alloc (.cells (Bv s) 50)).alloc (.cells (Bv t) 50)).alloc (.cells Z30 50)).heap[w.heap.size + 1]? = some (.cells (Bv t) 50 (0, 0)) := by
    rw [Go.heap_alloc_old _ _ (by simp)]; exact heap_alloc2_new _ _ _
  have H2 : (((w.alloc (.cells (Bv s) 50)).alloc (.cells (Bv t) 50)).alloc (.cells Z30 50)).heap[w.heap.size + 1 + 1]? = some (.cells Z30 50 (0, 0)) := by
    have := heap_alloc_new ((w.alloc (.cells (Bv s) 50)).alloc (.cells (Bv t) 50)) (.cells Z30 50)
    simpa using this
  have HB := Lib.hid hB0
  have K0 := Lib.hid H0
  have K1 := Lib.hid H1
  have K2 := Lib.hid H2
  clear hB0 H0 H1 H2
  go_enter Tryz.func60, Tryz.ntmps60
  go_wp2_with (first | (refine load_set rfl (.tmp 3) 50 rfl (w.heap.size + 1) rfl 50 t ht 5 Tryz.underlying50 size50 ?_ ?_))
  · exact K1.out
  · go_loopw [8] (fun i wr => ∃ k : Nat, k ≤ 30 ∧ i = .int .i64 k ∧ wr.heap[w.heap.size]? = some (.cells (Bv (bothK s t k)) 50 (0, 0)) ∧ wr.heap[w.heap.size + 1 + 1]? = some (.cells Z30 50 (0, 0)) ∧ Below w.heap.size w wr) (fun i _ => 30 - (intOf i).toNat)
    case atStart => exact ⟨0, by omega, rfl, K0.out, K2.out, HB.out⟩
    case round =>
      obtain ⟨k, hk, rfl, hr0, hr2, hB⟩ := hrel
      have R0 := Lib.hid hr0
      have R2 := Lib.hid hr2
      have RB := Lib.hid hB
      by_cases hlt : k < 30
      · obtain ⟨b, hb⟩ : ∃ b, b = (bothK s t k).getD k 0 := ⟨_, rfl⟩
        obtain ⟨c, hc⟩ : ∃ c, c = t.getD k 0 := ⟨_, rfl⟩
        have hcell : wr.cell? ⟨w.heap.size, k, none⟩ = some (.int .u8 (b : Int)) := by
          rw [cell_of_row wr _ _ _ _ _ hr0, Bv_at (by rw [bothK_len, hs.len]; exact hlt), hb]
        have hfz : wr.frozen? ⟨w.heap.size, k, none⟩ = false := frozen_of_row wr _ _ _ _ hr0
        have ho : bits BinOp.or IntKind.u8 (b : Int) (c : Int) = ((b ||| c : Nat) : Int) := u8_or_nat _ _ (hb ▸ (hs.bothK ht k).getD_lt _) (hc ▸ ht.getD_lt _)
        have HE := Lib.hid (show bothK s t (k + 1) = (bothK s t k).set k (b ||| c) by rw [bothK, hb, hc])
        have HC := Lib.hid hc.symm
        clear hr0 hr2 hB hb hc
        go_wp2_with (refine index_set rfl (.tmp 7) (.tmp 8) 50 rfl t ht rfl k hlt rfl 5 Tryz.underlying50 Tryz.underlying5 size5 c HC.out ?_)
        go_roundw
        case rel => exact ⟨k + 1, by omega, by go_num, by rw [heap_setCell_same wr _ _ _ _ _ R0.out, HE.out]; simp [Bv, List.map_set], by rw [heap_setCell_other _ _ _ _ (by simp; omega)]; exact R2.out, RB.out.setCell (Nat.le_refl _) _⟩
        case measure => simp [intOf]; omega
      · have hk30 : k = 30 := by omega
        subst hk30
        have hS : Set30 (bothP s t) := hs.both ht
        have hr0' : wr.heap[w.heap.size]? = some (.cells (Bv (bothP s t)) 50 (0, 0)) := by rw [← bothK_all hs ht]; exact hr0
        have R0' := Lib.hid hr0'
        clear hr0' hr0 hr2 hB
        go_wp2_with (first | (refine load_set rfl (.tmp 2) 50 rfl w.heap.size rfl 50 (bothP s t) hS 5 Tryz.underlying50 size50 ?_ ?_) | (refine store_set rfl (.tmp 4) (.tmp 19) 50 rfl (w.heap.size + 1 + 1) (bothP s t) rfl rfl hS 50 Z30 size50 Z30_size ?_ ?_))
        · exact R0'.out
        · exact R2.out
        · exact bodyPost_ret (results_set rfl _ _ (w.heap.size + 1 + 1) 50 (bothP s t) 5 hS rfl (setRow_heap _ _ Z30 _ _ _ R2.out) Tryz.underlying50 size50) rfl ⟨rfl, below_setRow RB.out (by omega) _⟩

theorem countP_take {ns : List Nat} (k : Nat) (h : k < ns.length) : countP (ns.take (k + 1)) = countP (ns.take k) + pop (ns.getD k 0) := by
  rw [List.take_succ_eq_append_getElem h]
  unfold countP
  rw [List.map_append, List.sum_append]
  simp [List.getElem?_eq_getElem h]

theorem countP_small {ns : List Nat} (k : Nat) (h : k ≤ ns.length) (h30 : ns.length = 30) : countP (ns.take k) ≤ 240 := by
  rw [count_take ns k h]
  have := cnt_le ns (8 * k)
  omega

set_option maxRecDepth 100000 in
set_option maxHeartbeats 400000 in
theorem count_any (ns : List Nat) (hs : Set30 ns) (w : World) :
    Calls Tryz.prog 16 #[.agg (Bv ns)] w fun e w' => e = .returned (.int .i64 (countP ns : Int)) ∧ Below w.heap.size w w' := by
  have hl := hs.len
  have K0 := Lib.hid (heap_alloc_new w (.cells (Bv ns) 50))
  have HL := Lib.hid hl
  clear hl
  go_enter Tryz.func16, Tryz.ntmps16
  go_wp2_with (first | (refine load_set rfl (.tmp 1) 50 rfl w.heap.size rfl 50 ns hs 5 Tryz.underlying50 size50 ?_ ?_))
  · exact K0.out
  · go_loop [3, 7] (fun n i => ∃ k : Nat, k ≤ 30 ∧ i = .int .i64 k ∧ n = .int .i64 (countP (ns.take k) : Int)) (fun _ i => 30 - (intOf i).toNat)
    case atStart => exact ⟨0, by omega, rfl, rfl⟩
    case round =>
      obtain ⟨k, hk, rfl, rfl⟩ := hrel
      have hsm := countP_small (ns := ns) k (by rw [HL.out]; exact hk) HL.out
      by_cases hlt : k < 30
      · obtain ⟨b, hb⟩ : ∃ b, b = ns.getD k 0 := ⟨_, rfl⟩
        have hbl : b < 256 := hb ▸ hs.getD_lt _
        have HE := Lib.hid (show countP (ns.take (k + 1)) = countP (ns.take k) + pop b by rw [countP_take k (by rw [HL.out]; exact hlt), hb])
        have hp := pop_le b
        have HC := Lib.hid hb.symm
        clear hb
        go_wp2_with (first | (go_at_call 34; refine (ones_any _ hbl _).mono ?_; rintro e w' ⟨rfl, rfl⟩) | (refine index_set rfl (.tmp 6) (.tmp 7) 50 rfl ns hs rfl k hlt rfl 5 Tryz.underlying50 Tryz.underlying5 size5 b HC.out ?_))
        go_round
        case rel => exact ⟨k + 1, by omega, by go_num, by rw [HE.out]; go_num⟩
        case measure => simp [intOf]; omega
      · have hk30 : k = 30 := by omega
        subst hk30
        go_wp2
        go_ret
        exact ⟨ret_int (by rw [List.take_of_length_le (by rw [HL.out]; omega)]), (Below.refl _ _).alloc (Nat.le_refl _) _⟩

end Go.Proofs.YtnlolhlbpdmljaaGreatDoor
namespace Go.Proofs.YtnlolhlbpdmljaaGreatDoor
open Go.RowKit

/-- The first number from f on, below t, that is not in it: n and true; or 0 and false, and there is none. -/
def IsFirst (ns : List Nat) (f t n : Int) (ok : Bool) : Prop :=
  (ok = true ∧ ∃ k : Nat, n = k ∧ k < 240 ∧ f ≤ k ∧ (k : Int) < t ∧ mem ns k = false ∧ ∀ i : Nat, f ≤ i → i < k → mem ns i = true) ∨
  (ok = false ∧ n = 0 ∧ ∀ i : Nat, i < 240 → f ≤ i → (i : Int) < t → mem ns i = true)

def FirstPost (ns : List Nat) (f t : Int) (w : World) (e : Ending) (w' : World) : Prop :=
  ∃ n ok, e = .returned (.tuple #[.int .i64 n, .bool ok]) ∧ IsFirst ns f t n ok ∧ Below w.heap.size w w'

set_option maxRecDepth 100000 in
set_option maxRecDepth 100000 in
set_option maxHeartbeats 1000000 in
theorem first_any (ns : List Nat) (hs : Set30 ns) (f t : Int) (w : World) :
    Calls Tryz.prog 83 #[.agg (Bv ns), .int .i64 f, .int .i64 t] w (FirstPost ns f t w) := by
  have K0 := Lib.hid (heap_alloc_new w (.cells (Bv ns) 50))
  have KB := Lib.hid ((Below.refl w.heap.size w).alloc (Nat.le_refl _) (.cells (Bv ns) 50))
  obtain ⟨k0, hk0, hfk, hlow⟩ : ∃ k0 : Nat, (if 0 ≤ f then f else 0) = (k0 : Int) ∧ f ≤ k0 ∧ ∀ i : Nat, f ≤ i → i < k0 → mem ns i = true := by
    by_cases h : 0 ≤ f
    · exact ⟨f.toNat, by rw [if_pos h]; omega, by omega, fun i h1 h2 => by omega⟩
    · exact ⟨0, by rw [if_neg h]; rfl, by omega, fun i h1 h2 => by omega⟩
  have HK := Lib.hid hk0
  have HLOW := Lib.hid hlow
  clear hk0 hlow
  by_cases hf : 0 ≤ f
  all_goals
    go_enter Tryz.func83, Tryz.ntmps83
    go_wp2_with fail
    go_loopw [8] (fun i wr => ∃ k : Nat, f ≤ k ∧ i = .int .i64 k ∧ (∀ j : Nat, f ≤ j → j < k → mem ns j = true) ∧ wr.heap[w.heap.size]? = some (.cells (Bv ns) 50 (0, 0)) ∧ Below w.heap.size w wr) (fun i _ => 240 - (intOf i).toNat)
    case atStart => exact ⟨k0, hfk, by have := HK.out; first | rw [if_pos hf] at this; rw [this] | (rw [if_neg (by omega)] at this; rw [← this]), HLOW.out, K0.out, KB.out⟩
    case round =>
      obtain ⟨k, hfk', rfl, hall, hr, hB⟩ := hrel
      have RA := Lib.hid hall
      have R0 := Lib.hid hr
      have RB := Lib.hid hB
      have hsz : w.heap.size < wr.heap.size := by
        by_cases h : w.heap.size < wr.heap.size
        · exact h
        · rw [Array.getElem?_eq_none (by omega)] at hr; cases hr
      have HSZ := Lib.hid hsz
      clear hall hr hB hsz
      by_cases hc : (k : Int) < t ∧ (k : Int) < 240
      · obtain ⟨hc1, hc2⟩ := hc
        have hmem : hasP ns (k : Int) = mem ns k := hasP_nat (by omega)
        by_cases hm : mem ns k = true
        · have hh : hasP ns (k : Int) = true := by rw [hmem]; exact hm
          have HM := Lib.hid hm
          clear hm hmem
          by_cases ht : t ≤ 240
          all_goals
            go_wp2_with (first | (refine load_set rfl (.tmp 3) 50 rfl w.heap.size rfl 50 ns hs 5 Tryz.underlying50 size50 ?_ ?_) | (go_at_call 17; refine (has_any ns _ _ hs).mono ?_; rintro e w' ⟨rfl, hb1⟩))
            · exact R0.out
            go_roundw
            case rel => exact ⟨k + 1, by omega, by go_num, fun j h1 h2 => if h : j < k then RA.out j h1 h else by rw [show j = k by omega]; exact HM.out, by rw [hb1.block _ HSZ.out]; exact R0.out, RB.out.trans (hb1.mono (Nat.le_of_lt HSZ.out))⟩
            case measure => simp [intOf]; omega
        · have hm' : mem ns k = false := by simpa using hm
          have hh : hasP ns (k : Int) = false := by rw [hmem]; exact hm'
          have HM := Lib.hid hm'
          clear hm hm' hmem
          by_cases ht : t ≤ 240
          all_goals
            go_wp2_with (first | (refine load_set rfl (.tmp 3) 50 rfl w.heap.size rfl 50 ns hs 5 Tryz.underlying50 size50 ?_ ?_) | (go_at_call 17; refine (has_any ns _ _ hs).mono ?_; rintro e w' ⟨rfl, hb1⟩))
            · exact R0.out
            go_ret2
            exact ⟨k, true, rfl, .inl ⟨rfl, k, rfl, by omega, hfk', hc1, HM.out, RA.out⟩, RB.out.trans (hb1.mono (Nat.le_of_lt HSZ.out))⟩
      · have hend : t ≤ (k : Int) ∨ 240 ≤ (k : Int) := by omega
        clear hc
        by_cases ht : t ≤ 240
        all_goals
          have hge : ¬ (k : Int) < t ∨ ¬ (k : Int) < 240 := by omega
          first | (have hg1 : ¬ (k : Int) < t := by omega) | (have hg1 : ¬ (k : Int) < 240 := by omega)
          clear hge hend
          go_wp2_with fail
          go_ret2
          exact ⟨0, false, rfl, .inr ⟨rfl, rfl, fun i h1 h2 h3 => RA.out i h2 (by omega)⟩, RB.out⟩

end Go.Proofs.YtnlolhlbpdmljaaGreatDoor
