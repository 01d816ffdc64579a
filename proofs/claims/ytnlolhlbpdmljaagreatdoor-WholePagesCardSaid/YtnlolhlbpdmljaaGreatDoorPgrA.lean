/-
  The pager in memory; its root, its generation, its set of used pages.
  Conditions: none.
-/
import Derived.Test.YtnlolhlbpdmljaaGreatDoorSupF
namespace Go.Proofs.YtnlolhlbpdmljaaGreatDoor
open Go.ChangeShapes Go.WideShapes Go.RowKit
def bvl (U : List Nat) : List Value := U.map fun (b : Nat) => Value.int .u8 (b : Int)
theorem bvl_length (U : List Nat) : (bvl U).length = U.length := by unfold bvl; simp
theorem bvl_Bv (U : List Nat) : (Bv U).toList = bvl U := rfl
def sul (s : SupT) : List Value := svl s.1 s.2.1 s.2.2
theorem sul_length {s : SupT} (h : Set30 s.2.2) : (sul s).length = 32 := by unfold sul svl; simp [h.len]
def pgl (d : Nat) (s : SupT) (Fr Go : List Nat) : List Value := [.pointer (some ⟨d, 0, none⟩)] ++ (sul s ++ (bvl Fr ++ bvl Go))
/-- The pager at P: its disk at d, its superblock s, the fresh pages, the gone ones. -/
structure PAt (w : World) (B P d : Nat) (V : Nat → B8) (n : Nat) (s : SupT) (Fr Go : List Nat) : Prop where
  obj : w.heap[P]? = some (.cells (pgl d s Fr Go).toArray 69 (0, 0))
  dsk : Dsk w B d V n
  su : Set30 s.2.2
  sf : Set30 Fr
  sg : Set30 Go
  low : B ≤ P
theorem PAt.below {w w' : World} {B P d : Nat} {V : Nat → B8} {n : Nat} {s : SupT} {Fr Go : List Nat} (h : PAt w B P d V n s Fr Go) (b : Below w.heap.size w w') : PAt w' B P d V n s Fr Go :=
  ⟨(b.block P (row_lt h.obj)).trans h.obj, h.dsk.below b, h.su, h.sf, h.sg, h.low⟩
def isPg (t : TypeId) : Bool := isDisk t || t == 69
theorem isPg_disk {t : TypeId} (h : isDisk t = true) : isPg t = true := by unfold isPg; rw [h]; rfl
theorem range_part {w : World} {P : Nat} {a m b : List Value} {t : TypeId} {fr : Nat × Nat} (h : w.heap[P]? = some (.cells (a ++ (m ++ b)).toArray t fr)) (k : Nat) (hk : a.length = k) : w.rangeAt P k m := by
  subst hk
  intro j v hj
  rw [cell_of_row w P _ _ t fr h]
  rw [List.getElem?_toArray, List.getElem?_append_right (by omega), Nat.add_sub_cancel_left]
  rw [List.getElem?_append_left (by
    rcases Nat.lt_or_ge j m.length with h1 | h1
    · exact h1
    · rw [List.getElem?_eq_none h1] at hj; cases hj)]
  exact hj
section
variable {w : World} {P d : Nat} {s : SupT} {Fr Go : List Nat}
theorem pg_sup (h : w.heap[P]? = some (.cells (pgl d s Fr Go).toArray 69 (0, 0))) : w.rangeAt P 1 (sul s) := range_part h 1 rfl
theorem pg_used (h : w.heap[P]? = some (.cells (pgl d s Fr Go).toArray 69 (0, 0))) : w.rangeAt P 3 (bvl s.2.2) := fun j v hj => by
  have := pg_sup h (j + 2) v (by unfold sul svl; exact hj)
  rwa [show 1 + (j + 2) = 3 + j by omega] at this
theorem pg_fresh (h : w.heap[P]? = some (.cells (pgl d s Fr Go).toArray 69 (0, 0))) (hu : Set30 s.2.2) : w.rangeAt P 33 (bvl Fr) := by
  have e : pgl d s Fr Go = ([.pointer (some ⟨d, 0, none⟩)] ++ sul s) ++ (bvl Fr ++ bvl Go) := by unfold pgl; simp
  rw [e] at h
  exact range_part h 33 (by simp [sul_length hu])
theorem pg_gone (h : w.heap[P]? = some (.cells (pgl d s Fr Go).toArray 69 (0, 0))) (hu : Set30 s.2.2) (hf : Set30 Fr) : w.rangeAt P 63 (bvl Go) := by
  have e : pgl d s Fr Go = ([.pointer (some ⟨d, 0, none⟩)] ++ sul s ++ bvl Fr) ++ (bvl Go ++ []) := by unfold pgl; simp
  rw [e] at h
  exact range_part h 63 (by simp [sul_length hu, bvl_length, hf.len])
theorem pg_cells (h : w.heap[P]? = some (.cells (pgl d s Fr Go).toArray 69 (0, 0))) : w.cell? ⟨P, 0, none⟩ = some (.pointer (some ⟨d, 0, none⟩)) ∧ w.cell? ⟨P, 1, none⟩ = some (.int .u32 (s.1 : Int)) ∧ w.cell? ⟨P, 2, none⟩ = some (.int .i64 (s.2.1 : Int)) :=
  ⟨cell_of_row w P 0 _ 69 (0, 0) h, cell_of_row w P 1 _ 69 (0, 0) h, cell_of_row w P 2 _ 69 (0, 0) h⟩
end
set_option maxHeartbeats 400000 in
theorem pnone_any (P : Nat) (w : World) : Calls Tryz.prog 29 #[.pointer (some ⟨P, 0, none⟩)] w fun e w' => e = .returned .nilIface ∧ w = w' := by
  go_enter Tryz.func29, Tryz.ntmps29
  go_wp2
  go_ret
  exact ⟨rfl, rfl⟩
set_option maxHeartbeats 400000 in
theorem proot_any {w : World} {B P d : Nat} {V : Nat → B8} {n : Nat} {s : SupT} {Fr Go : List Nat} (h : PAt w B P d V n s Fr Go) : Calls Tryz.prog 9 #[.pointer (some ⟨P, 0, none⟩)] w fun e w' => e = .returned (.int .i64 (s.2.1 : Int)) ∧ w = w' := by
  obtain ⟨c0, c1, c2⟩ := pg_cells h.obj
  clear h
  go_enter Tryz.func9, Tryz.ntmps9
  go_wp2
  go_ret
  exact ⟨rfl, rfl⟩
set_option maxHeartbeats 400000 in
theorem pgen_any {w : World} {B P d : Nat} {V : Nat → B8} {n : Nat} {s : SupT} {Fr Go : List Nat} (h : PAt w B P d V n s Fr Go) : Calls Tryz.prog 15 #[.pointer (some ⟨P, 0, none⟩)] w fun e w' => e = .returned (.int .u32 (s.1 : Int)) ∧ w = w' := by
  obtain ⟨c0, c1, c2⟩ := pg_cells h.obj
  clear h
  go_enter Tryz.func15, Tryz.ntmps15
  go_wp2
  go_ret
  exact ⟨rfl, rfl⟩
section
variable {ρ : Operand → Value} {o : Oper}
theorem run_fld69_0 {x : Operand} (ho : o.op = .fieldAddr 69 x 0) {d : Nat} (hx : ρ x = .pointer (some ⟨d, 0, none⟩)) (w : World) : (execOp ρ o).run Tryz.prog w = .ok (.value (.pointer (some ⟨d, 0, none⟩))) w := by
  unfold execOp; rw [ho]; simp [hx, go_sem]
theorem run_fld69_1 {x : Operand} (ho : o.op = .fieldAddr 69 x 1) {d : Nat} (hx : ρ x = .pointer (some ⟨d, 0, none⟩)) (w : World) : (execOp ρ o).run Tryz.prog w = .ok (.value (.pointer (some ⟨d, 1, none⟩))) w := by
  unfold execOp; rw [ho]; simp [hx, go_sem]
theorem run_fld69_2 {x : Operand} (ho : o.op = .fieldAddr 69 x 2) {d : Nat} (hx : ρ x = .pointer (some ⟨d, 0, none⟩)) (w : World) : (execOp ρ o).run Tryz.prog w = .ok (.value (.pointer (some ⟨d, 33, none⟩))) w := by
  unfold execOp; rw [ho]; simp [hx, go_sem]
theorem run_fld69_3 {x : Operand} (ho : o.op = .fieldAddr 69 x 3) {d : Nat} (hx : ρ x = .pointer (some ⟨d, 0, none⟩)) (w : World) : (execOp ρ o).run Tryz.prog w = .ok (.value (.pointer (some ⟨d, 63, none⟩))) w := by
  unfold execOp; rw [ho]; simp [hx, go_sem]
theorem run_fld52i_0 {x : Operand} (ho : o.op = .fieldAddr 52 x 0) {d : Nat} (hx : ρ x = .pointer (some ⟨d, 1, none⟩)) (w : World) : (execOp ρ o).run Tryz.prog w = .ok (.value (.pointer (some ⟨d, 1, none⟩))) w := by
  unfold execOp; rw [ho]; simp [hx, go_sem]
theorem run_fld52i_2 {x : Operand} (ho : o.op = .fieldAddr 52 x 2) {d : Nat} (hx : ρ x = .pointer (some ⟨d, 1, none⟩)) (w : World) : (execOp ρ o).run Tryz.prog w = .ok (.value (.pointer (some ⟨d, 3, none⟩))) w := by
  unfold execOp; rw [ho]; simp [hx, go_sem]
theorem run_load_ptr {x : Operand} (ho : o.op = .load 24 x) {a : Addr} (hx : ρ x = .pointer (some a)) {v : Value} {w : World} (hc : w.cell? a = some v) : (execOp ρ o).run Tryz.prog w = .ok (.value v) w := by
  unfold execOp
  rw [ho]
  simp [hx, Instr.loadAt, Instr.sureAddr, loadVar, isAgg, Sem.run_bind, run_underlying Tryz.underlying24, load, Sem.run, hc]
theorem info50 : (Tryz.prog.info? 50).map (fun i => (i.zero, i.size, i.bytes)) = some (some (.agg Z30), 30, 30) := by kernel_rfl
theorem run_alloc50 (ho : o.op = .alloc 50) (w : World) : (execOp ρ o).run Tryz.prog w = .ok (.value (.pointer (some ⟨w.heap.size, 0, none⟩))) (w.alloc (.cells Z30 50)) := by
  obtain ⟨i0, hi0, hz0, hz1, hz2⟩ := info_parts info50
  have hr : (Instr.alloc 50 true (.tuple #[])).run Tryz.prog w = .ok (.pointer (some ⟨w.heap.size, 0, none⟩)) (w.alloc (.cells Z30 50)) := by
    simp [Instr.alloc, zeroValue, typeInfo, hi0, hz0, newVar, newRow, Value.cells]
  unfold execOp
  rw [ho]
  simp only [Sem.run_bind, hr, Result.andThen_ok, Sem.run_pure]
theorem run_store_row50 {x y : Operand} (ho : o.op = .store 50 x y) {g : Nat} {U : List Nat} (hU : Set30 U) (hx : ρ x = .pointer (some ⟨g, 0, none⟩)) (hy : ρ y = .agg (Bv U)) {t : TypeId} {old : Array Value} {w : World} (hg : w.heap[g]? = some (.cells old t (0, 0))) (h1 : old.size = 30) : (execOp ρ o).run Tryz.prog w = .ok .skip (w.setRow g (Bv U)) := by
  have h2 : (Bv U).size = 30 := by rw [Bv_size, hU.len]
  have hr := run_storeVar_row (P := Tryz.prog) w g t 50 old (Bv U) hg (by rw [h2]; exact size50) (by rw [h1, h2]) (Bv_one U)
  unfold execOp
  rw [ho]
  simp only [hx, hy, Instr.storeAt, Instr.sureAddr, Sem.run_bind, Sem.run_pure, Result.andThen_ok, hr]
end
/-- The pages that are in use behind k of the gone ones. -/
def usedK (U Fr Go : List Nat) : Nat → List Nat
  | 0 => bothP U Fr
  | k + 1 => if mem Go k then withoutP (usedK U Fr Go k) (k : Int) else usedK U Fr Go k
def usedP (U Fr Go : List Nat) : List Nat := usedK U Fr Go 240
theorem usedK_set {U Fr Go : List Nat} (hu : Set30 U) (hf : Set30 Fr) : ∀ k, Set30 (usedK U Fr Go k) := by
  intro k
  induction k with
  | zero => exact hu.both hf
  | succ k ih =>
    unfold usedK
    split
    · exact ih.without _
    · exact ih
theorem mem_usedK {U Fr Go : List Nat} (hu : Set30 U) (hf : Set30 Fr) : ∀ k, k ≤ 240 → ∀ i, i < 240 → mem (usedK U Fr Go k) i = ((mem U i || mem Fr i) && !(decide (i < k) && mem Go i)) := by
  intro k
  induction k with
  | zero => intro _ i hi; rw [usedK, mem_both hu hf i hi]; simp
  | succ k ih =>
    intro hk i hi
    unfold usedK
    split
    · rename_i hm
      rw [mem_without (usedK_set hu hf k) hi, ih (by omega) i hi, inB_nat (by omega), Int.toNat_natCast]
      by_cases e : i = k
      · subst e; simp [hm]
      · have e2 : decide (i < k + 1) = decide (i < k) := by apply decide_eq_decide.2; omega
        rw [e2]; simp [e]
    · rename_i hm
      rw [ih (by omega) i hi]
      by_cases e : i = k
      · subst e; simp [hm]
      · have e2 : decide (i < k + 1) = decide (i < k) := by apply decide_eq_decide.2; omega
        rw [e2]
theorem mem_usedP {U Fr Go : List Nat} (hu : Set30 U) (hf : Set30 Fr) {i : Nat} (hi : i < 240) : mem (usedP U Fr Go) i = ((mem U i || mem Fr i) && !mem Go i) := by
  unfold usedP
  rw [mem_usedK hu hf 240 (Nat.le_refl _) i hi, decide_eq_true hi, Bool.true_and]
theorem usedP_set {U Fr Go : List Nat} (hu : Set30 U) (hf : Set30 Fr) : Set30 (usedP U Fr Go) := usedK_set hu hf 240
end Go.Proofs.YtnlolhlbpdmljaaGreatDoor
