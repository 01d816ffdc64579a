/-
  The statements' first test: awake answers true.
  Conditions: none.
-/
import Derived.Test.YtcmbmocineegoaaWalkE
namespace Go.Proofs.Ytcmbmocineegoaa
open Go.ChangeShapes Go.WideShapes Go.RowKit

theorem min_is {l m : List D} {x : D} (hA : HAll l) (hp : l.Perm m) (hx : x ∈ m) (hm : ∀ y ∈ m, less y x = false) : at_ l 0 = x := by
  have hxl : x ∈ l := hp.mem_iff.2 hx
  have h0 : 0 < l.length := List.length_pos_of_mem hxl
  obtain ⟨j, hj, e⟩ := mem_at hxl
  have h1 := hall_min hA j hj
  rw [e] at h1
  exact less_total (hm _ (hp.mem_iff.1 (at_mem h0))) h1

theorem kept_below {S : Nat → Prop} {B : Nat} {w w' : World} (h : Kept S w w') (hB : B ≤ w.heap.size) (hS : ∀ k, S k → B ≤ k) : Below B w w' :=
  h.below hB fun k hk hs => by have := hS k hs; omega

set_option maxRecDepth 100000 in
set_option maxHeartbeats 1000000 in
theorem awake_any (w : World) : Calls Try.prog 13 #[] w fun e w' => e = .returned (.bool true) ∧ Below w.heap.size w w' := by
  go_enter Try.func13, Try.ntmps13
  go_wp2_with fail
  refine (new_any w).mono ?_
  rintro e w1 ⟨rfl, hO1, hb1, hs1⟩
  have O1 := Lib.hid hO1
  have B1 := Lib.hid hb1
  have S1 := Lib.hid hs1
  clear hO1 hb1 hs1
  go_wp2_with fail
  refine (push_any w1 w.heap.size w.heap.size (.slice none 0 0) [] (5, 1) O1.out ⟨rfl, .inl ⟨rfl, rfl⟩⟩ B1.out.size hall_nil (by simp)).mono ?_
  rintro e w2 ⟨g2, cap2, l2, rfl, hO2, hR2, hl2, hp2, hA2, hg2, hx2, hK2⟩
  have O2 := Lib.hid hO2
  have R2 := Lib.hid hR2
  have L2 := Lib.hid hl2
  have P2 := Lib.hid hp2
  have A2 := Lib.hid hA2
  have G2 := Lib.hid hg2
  have B2 := Lib.hid (B1.out.trans (kept_below hK2 B1.out.size (fun k hk => by
    rcases hk with e | e
    · omega
    · cases e)))
  clear hO2 hR2 hl2 hp2 hA2 hg2 hx2 hK2
  go_wp2_with fail
  refine (push_any w2 w.heap.size w.heap.size (.slice (some ⟨g2, 0, none⟩) l2.length cap2) l2 (3, 2) O2.out (own_of_row R2.out G2.out) B2.out.size A2.out (by rw [L2.out]; simp)).mono ?_
  rintro e w3 ⟨g3, cap3, l3, rfl, hO3, hR3, hl3, hp3, hA3, hg3, hx3, hK3⟩
  have hat : at_ l3 0 = (3, 2) := min_is hA3 (hp3.trans (P2.out.cons _)) (by simp) (by decide)
  have hl3' : l3.length = 1 + 1 := by rw [hl3, L2.out]; rfl
  rw [hl3'] at hO3
  have hpop := pop_any w3 w.heap.size g3 cap3 1 l3 hl3' hO3 hR3 hA3 (by omega)
  rw [hat] at hpop
  have HPOP := Lib.hid hpop
  have G3 := Lib.hid hg3
  have B3 := Lib.hid (B2.out.trans (kept_below hK3 B2.out.size (fun k hk => by
    rcases hk with e | e
    · omega
    · have e2 : g2 = k := by simpa [Value.ownBlock] using e
      rw [← e2]; exact G2.out)))
  clear hO3 hR3 hl3 hp3 hA3 hg3 hx3 hK3 hat hl3' hpop
  go_wp2_with fail
  refine HPOP.out.mono ?_
  rintro e w4 ⟨l4, rfl, hO4, hR4, hp4, hA4, hK4⟩
  have B4 := Lib.hid (B3.out.trans (kept_below hK4 B3.out.size (fun k hk => by
    have := G3.out
    rcases hk with e | e <;> omega)))
  clear hO4 hR4 hp4 hA4 hK4
  unfold dv
  go_wp2
  go_ret
  exact ⟨rfl, B4.out.alloc B4.out.size _⟩

end Go.Proofs.Ytcmbmocineegoaa
