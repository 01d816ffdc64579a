/-
  An array of thirty bytes that came in, opened: its cells are thirty numbers below 256. And the first call of each statement, awake, which answers true.
  Conditions: none.
-/
import Derived.Test.YtkeoghekeapgaaaWalkC
import Derived.ProofKit
import Derived.OpenShut
import Derived.ChangeOld
namespace Go.Proofs.Ytkeoghekeapgaaa
open Go.ChangeShapes Go.WideShapes Go.ChangeAt Go.RowKit

theorem own : ownKnob Try.prog.godebug = none := by kernel_rfl
theorem laidOut : laidOutB Try.prog = true := by kernel_rfl
theorem cells22 : Try.prog.cellsOf 22 = 30 := by kernel_rfl
theorem cells5 : Try.prog.cellsOf 5 = 1 := by kernel_rfl

theorem open_set {H : Type} {enc : TypeId × Value → H} {w : World} {base base' : Nat} {spare : Nat → Bool} {held : Bool} {v : Value} {d : DataW H} {p : List MemPlace}
    (hv : Value.okWide Try.prog w .any base' 22 v) (h : DataW.Trod enc Try.prog w base spare held 22 v d p) : ∃ ns, v = .agg (Bv ns) ∧ Set30 ns := by
  unfold Value.okWide at hv
  rw [Try.underlying22] at hv
  obtain ⟨cs, rfl, hsz, _⟩ := hv
  rw [cells22] at hsz
  obtain ⟨fuel, hf⟩ := h
  obtain ⟨xs, m, _, _, _, hl, hall⟩ := DataW.trod_array Try.underlying22 hf
  simp only [Value.cells, cells5, Nat.mul_one] at hall
  have key : ∀ i, i < 30 → ∃ b : Nat, b < 256 ∧ cs[i]? = some (.int .u8 (b : Int)) := by
    intro i hi
    have h1 := hall i hi
    rw [List.getElem?_eq_getElem (by omega)] at h1
    obtain ⟨z, hc, _, hw⟩ := DataW.trod_int Try.underlying5 h1
    have h2 := congrArg (·[0]?) hc
    simp [List.getElem?_drop] at h2
    have h3 := bounds_u8 hw
    exact ⟨z.toNat, by omega, by rw [h2, Int.toNat_of_nonneg h3.1]⟩
  refine ⟨(List.range 30).map fun i => if h : i < 30 then (key i h).choose else 0, ?_, by simp, ?_⟩
  · congr 1
    apply Array.ext_getElem?
    intro i
    by_cases hi : i < 30
    · rw [(key i hi).choose_spec.2]
      simp [Bv, hi]
    · rw [Array.getElem?_eq_none (by omega), Array.getElem?_eq_none (by simp [Bv]; omega)]
  · intro b hb
    simp only [List.mem_map, List.mem_range] at hb
    obtain ⟨i, hi, rfl⟩ := hb
    rw [dif_pos hi]
    exact (key i hi).choose_spec.1

/-- No number is in it. -/
def Zn : List Nat := List.replicate 30 0
theorem Zn_set : Set30 Zn := ⟨by simp [Zn], fun b hb => by simp [Zn] at hb; omega⟩
theorem Zn_at : ∀ k, k < 240 → mem Zn k = false := by decide +kernel
theorem Zn_Bv : Bv Zn = Z30 := by simp [Bv, Zn, Z30]

theorem awake_first {n : Int} {ok : Bool} (h : IsFirst (withP (withP Zn 0) 1) 0 240 n ok) : n = 2 ∧ ok = true := by
  have hz := Zn_set
  have e : ∀ i, i < 240 → mem (withP (withP Zn 0) 1) i = (decide (i = 0) || decide (i = 1)) := by
    intro i hi
    have e1 : inB (1 : Int) = true := rfl
    have e0 : inB (0 : Int) = true := rfl
    rw [mem_with (hz.with 0) hi, mem_with hz hi, Zn_at i hi, e1, e0]
    simp
  rcases h with ⟨rfl, k, rfl, hk, _, _, hm, hb⟩ | ⟨_, _, hall⟩
  · rw [e k hk] at hm
    simp at hm
    have : ¬ 2 < k := fun hlt => by
      have := hb 2 (by omega) hlt
      rw [e 2 (by omega)] at this
      simp at this
    exact ⟨by omega, rfl⟩
  · have := hall 2 (by omega) (by omega) (by omega)
    rw [e 2 (by omega)] at this
    simp at this

set_option maxRecDepth 100000 in
set_option maxHeartbeats 400000 in
theorem awake_any (w : World) : Calls Try.prog 8 #[] w fun e w' => e = .returned (.bool true) ∧ Below w.heap.size w w' := by
  go_enter Try.func8, Try.ntmps8
  go_wp2_with fail
  refine (with_any Zn 0 _ Zn_set).mono ?_
  rintro e w1 ⟨rfl, hb1⟩
  go_wp2_with fail
  refine (with_any (withP Zn 0) 1 _ (Zn_set.with 0)).mono ?_
  rintro e w2 ⟨rfl, hb2⟩
  go_wp2_with fail
  refine (first_any (withP (withP Zn 0) 1) ((Zn_set.with 0).with 1) 0 240 _).mono ?_
  rintro e w3 ⟨n, ok, rfl, hF, hb3⟩
  obtain ⟨rfl, rfl⟩ := awake_first hF
  clear hF
  have HB := Lib.hid (hb1.trans ((hb2.mono hb1.size).trans (hb3.mono (Nat.le_trans hb1.size hb2.size))))
  clear hb1 hb2 hb3
  go_wp2
  go_ret
  exact ⟨rfl, HB.out⟩

end Go.Proofs.Ytkeoghekeapgaaa
