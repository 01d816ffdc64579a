/-
  Texts and numbers that came in, opened; and what the statements' first test comes to: awake answers true.
  Conditions: none.
-/
import Derived.Test.YtpocmbbnloccoaaWalkA
import Derived.ProofKit
import Derived.OpenShut
import Derived.ShutString
import Derived.ChangeOld
namespace Go.Proofs.Ytpocmbbnloccoaa
open Go.ChangeShapes Go.WideShapes Go.ChangeAt Go.RowKit

theorem own : ownKnob Try.prog.godebug = none := by kernel_rfl
theorem laidOut : laidOutB Try.prog = true := by kernel_rfl
theorem of_u32 {a : Int} (h : (Lit.int .u32 a).wf = true) : ∃ x : BitVec 32, a = (un x : Int) := by
  have := bounds_u32 h
  exact ⟨BitVec.ofNat 32 a.toNat, by rw [un_of _ (by omega)]; omega⟩
theorem of_u16 {a : Int} (h : (Lit.int .u16 a).wf = true) : ∃ x : Nat, x < 65536 ∧ a = (x : Int) := by
  have := bounds_u16 h
  exact ⟨a.toNat, by omega, by omega⟩
theorem un_eq (x y : BitVec 32) : ((un x : Int) == (un y : Int)) = decide (x = y) := by
  rw [Bool.eq_iff_iff]
  simp only [beq_iff_eq, decide_eq_true_eq]
  exact ⟨fun h => un_inj (Int.ofNat_inj.1 h), fun h => by rw [h]⟩

end Go.Proofs.Ytpocmbbnloccoaa
