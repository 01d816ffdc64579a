/-
  The sums' contracts at a world of a class 'below B nothing has turned'; a text's parts; texts that are made of bytes.
  Conditions: none.
-/
import Derived.Test.YtpocmbbnloccoaaOpen
namespace Go.Proofs.Ytpocmbbnloccoaa
open Go.ChangeShapes Go.WideShapes Go.ChangeAt Go.RowKit

theorem class_sum {B : Nat} {W w : World} (hB : B ≤ W.heap.size) (h : Below B W w) (s : ByteArray) (hs : s.size ≤ maxLen) : Calls Try.prog 10 #[.string s] w fun e w'' => e = .returned (.int .u32 (un (sumP s.data.toList) : Int)) ∧ Below B W w'' :=
  (sum_any s hs w).mono fun _ _ ⟨he, hb⟩ => ⟨he, h.trans (hb.mono (Nat.le_trans hB h.size))⟩
theorem class_more {B : Nat} {W w : World} (hB : B ≤ W.heap.size) (h : Below B W w) (x : BitVec 32) (s : ByteArray) (hs : s.size ≤ maxLen) : Calls Try.prog 12 #[.int .u32 (un x : Int), .string s] w fun e w'' => e = .returned (.int .u32 (un (moreP x s.data.toList) : Int)) ∧ Below B W w'' :=
  (more_any x s hs w).mono fun _ _ ⟨he, hb⟩ => ⟨he, h.trans (hb.mono (Nat.le_trans hB h.size))⟩

section
variable {P : Program} {ρ : Operand → Value} {o : Oper}
theorem run_slice_hi {t : TypeId} {x y : Operand} (ho : o.op = .slice t x none (some y) none) (ht : P.underlying t = some .string) {s : ByteArray} {k : Nat} (hx : ρ x = .string s) (hy : ρ y = .int .i64 (k : Int)) (hk : k ≤ s.size) (w : World) :
    (execOp ρ o).run P w = .ok (.value (.string (s.extract 0 k))) w := by
  have h := run_slice_string_h (P := P) (t := t) (w := w) (s := s) ht .i64 (k : Int) (by omega) (by omega)
  unfold execOp
  rw [ho]
  simp only [Option.map_some, Option.map_none, hx, hy, Instr.sliceAt, Sem.run_bind, run_underlying ht, Result.andThen_ok]
  simp only [Int.toNat_natCast] at h
  simp only [h, Result.andThen_ok, Sem.run_pure]
theorem run_slice_lo {t : TypeId} {x y : Operand} (ho : o.op = .slice t x (some y) none none) (ht : P.underlying t = some .string) {s : ByteArray} {k : Nat} (hx : ρ x = .string s) (hy : ρ y = .int .i64 (k : Int)) (hk : k ≤ s.size) (w : World) :
    (execOp ρ o).run P w = .ok (.value (.string (s.extract k s.size))) w := by
  have h := run_slice_string_l (P := P) (t := t) (w := w) (s := s) ht .i64 (k : Int) (by omega) (by omega)
  unfold execOp
  rw [ho]
  simp only [Option.map_some, Option.map_none, hx, hy, Instr.sliceAt, Sem.run_bind, run_underlying ht, Result.andThen_ok]
  simp only [Int.toNat_natCast] at h
  simp only [h, Result.andThen_ok, Sem.run_pure]
theorem run_xor_is {t t' : TypeId} {x y : Operand} (ho : o.op = .binOp .xor t x y t') {a b : Int} (hx : ρ x = .int .u32 a) (hy : ρ y = .int .u32 b) (r : Int) (hr : bits BinOp.xor IntKind.u32 a b = r) (w : World) :
    (execOp ρ o).run P w = .ok (.value (.int .u32 r)) w := by
  unfold execOp
  rw [ho]
  simp only [hx, hy]
  simp [eqGuard, binOp, hr, go_sem]
end

theorem list_hi (s : ByteArray) (k : Nat) : (s.extract 0 k).data.toList = s.data.toList.take k := by
  rw [ByteArray.data_extract, Array.toList_extract]; simp
theorem list_lo (s : ByteArray) (k : Nat) : (s.extract k s.size).data.toList = s.data.toList.drop k := by
  rw [ByteArray.data_extract, Array.toList_extract]
  simp [← ByteArray.size_data]
  exact List.take_of_length_le (by simp)
theorem size_hi (s : ByteArray) (k : Nat) (h : k ≤ s.size) : (s.extract 0 k).size = k := by
  rw [ByteArray.size_extract]; omega

end Go.Proofs.Ytpocmbbnloccoaa
