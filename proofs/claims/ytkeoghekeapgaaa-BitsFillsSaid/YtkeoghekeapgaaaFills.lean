/-
  Filled up one by one, by the first number that is not in it, a set has all in the end: BitsFills answers true at every set of thirty bytes, and writes nothing that was there.
  Conditions: none.
-/
import Derived.Test.YtkeoghekeapgaaaBack
namespace Go.Proofs.Ytkeoghekeapgaaa
open Go.ChangeShapes Go.WideShapes Go.ChangeAt Go.RowKit

theorem first_full {ns : List Nat} {n : Int} {ok : Bool} (h : IsFirst ns 0 240 n ok) (hall : ∀ i, i < 240 → mem ns i = true) : ok = false ∧ n = 0 := by
  rcases h with ⟨_, k, _, hk, _, _, hm, _⟩ | ⟨h1, h2, _⟩
  · rw [hall k hk] at hm; cases hm
  · exact ⟨h1, h2⟩

set_option maxRecDepth 100000 in
set_option maxHeartbeats 1000000 in
theorem walk_bitsFills (ns : List Nat) (hs : Set30 ns) (w : World) :
    Calls Try.prog 4 #[.agg (Bv ns)] w fun e w' => e = .returned (.bool true) ∧ Below w.heap.size w w' := by
  have K0 := Lib.hid (heap_alloc_new w (.cells (Bv ns) 22))
  have KB := Lib.hid ((Below.refl w.heap.size w).alloc (Nat.le_refl _) (.cells (Bv ns) 22))
  go_enter Try.func4, Try.ntmps4
  go_wp2_with fail
  refine (awake_any _).mono ?_
  rintro e w1 ⟨rfl, hb1⟩
  have KW1 := Lib.hid (row_later (hb1.mono (by simp : w.heap.size + 1 ≤ _)) K0.out (by omega))
  have KB1 := Lib.hid (KB.out.trans (hb1.mono (by simp)))
  have KS1 := Lib.hid KB1.out.size
  clear hb1
  have R3 := Lib.hid (show (w1.alloc (.cells (Bv ns) 28)).heap[w1.heap.size]? = _ from heap_alloc_new w1 _)
  have RB := Lib.hid (KB1.out.alloc KS1.out (.cells (Bv ns) 28))
  go_wp2_with (first | (refine load_set rfl (.tmp 1) 22 rfl w.heap.size rfl 22 ns hs 5 Try.underlying22 size22 ?_ ?_) | (refine store_new rfl (.tmp 3) (.tmp 12) 28 rfl ns rfl rfl hs 28 _ size28 rfl ?_))
  · exact KW1.out
  go_loopw [4, 5] (fun l i wr => ∃ (k : Nat) (z : Int) (xs : List Nat), k ≤ 240 ∧ i = .int .i64 k ∧ l = .int .i64 z ∧ (k : Int) - 1 ≤ z ∧ z < 240 ∧ Set30 xs ∧ (∀ j : Nat, (j : Int) ≤ z → mem xs j = true) ∧ wr.heap[w1.heap.size]? = some (.cells (Bv xs) 28 (0, 0)) ∧ Below w.heap.size w wr) (fun _ i _ => 240 - (intOf i).toNat)
  case atStart => exact ⟨0, -1, ns, by omega, rfl, rfl, by omega, by omega, hs, fun j hj => by omega, R3.out, RB.out⟩
  case round =>
    obtain ⟨k, z, xs, hk, rfl, rfl, hkz, hz, hxs, hlow, hr, hB⟩ := hrel
    have R0 := Lib.hid hr
    have RBr := Lib.hid hB
    have RL := Lib.hid hlow
    have RS := Lib.hid hB.size
    clear hr hB hlow
    by_cases hlt : k < 240
    · go_wp2_with (refine load_set rfl (.tmp 3) 28 rfl w1.heap.size rfl 28 xs hxs 5 Try.underlying28 size28 ?_ ?_)
      · exact R0.out
      refine (first_any xs hxs 0 240 _).mono ?_
      rintro e w2 ⟨n, ok, rfl, hF, hb2⟩
      have R02 := Lib.hid (row_later hb2 R0.out (row_lt R0.out))
      have RB2 := Lib.hid (RBr.out.trans (hb2.mono RS.out))
      have RS2 := Lib.hid RB2.out.size
      clear hb2
      rcases hF with ⟨rfl, k0, rfl, hk0, _, _, hm, hall⟩ | ⟨rfl, rfl, hall⟩
      · have hgt : z < (k0 : Int) := by
          rcases Int.lt_or_le z (k0 : Int) with h | h
          · exact h
          · have := RL.out k0 h
            rw [hm] at this; cases this
        have hle : decide ((k0 : Int) ≤ z) = false := decide_eq_false (by omega)
        have hh : hasP xs (k0 : Int) = false := by rw [hasP_nat hk0]; exact hm
        have hw := hxs.with (k0 : Int)
        have HN := Lib.hid (show ∀ j : Nat, (j : Int) ≤ (k0 : Int) → mem (withP xs (k0 : Int)) j = true from fun j hj => by
          rw [mem_with hxs (by omega), inB_nat hk0, Bool.true_and, Int.toNat_natCast]
          by_cases e : j = k0
          · simp [e]
          · rw [hall j (by omega) (by omega)]; rfl)
        clear hm hall
        go_wp2_with (refine load_set rfl (.tmp 3) 28 rfl w1.heap.size rfl 28 xs hxs 5 Try.underlying28 size28 ?_ ?_)
        · exact R02.out
        refine (has_any xs _ _ hxs).mono ?_
        rintro e w3 ⟨rfl, hb3⟩
        have R03 := Lib.hid (row_later hb3 R02.out (row_lt R02.out))
        have RB3 := Lib.hid (RB2.out.trans (hb3.mono RS2.out))
        have RS3 := Lib.hid RB3.out.size
        clear hb3
        go_wp2_with (refine load_set rfl (.tmp 3) 28 rfl w1.heap.size rfl 28 xs hxs 5 Try.underlying28 size28 ?_ ?_)
        · exact R03.out
        refine (with_any xs _ _ hxs).mono ?_
        rintro e w4 ⟨rfl, hb4⟩
        have R04 := Lib.hid (row_later hb4 R03.out (row_lt R03.out))
        have RB4 := Lib.hid (RB3.out.trans (hb4.mono RS3.out))
        clear hb4
        go_wp2_with (refine store_set rfl (.tmp 3) (.tmp 35) 28 rfl w1.heap.size (withP xs (k0 : Int)) rfl rfl hw 28 (Bv xs) size28 (by rw [Bv_size]; exact hxs.len) ?_ ?_)
        · exact R04.out
        go_roundw
        case rel => exact ⟨k + 1, k0, withP xs (k0 : Int), by omega, by go_num, rfl, by omega, by omega, hw, HN.out, setRow_heap _ _ _ _ _ _ R04.out, below_setRow RB4.out KS1.out _⟩
        case measure => simp [intOf]; omega
      · have HA := Lib.hid (show ∀ j, j < 240 → mem xs j = true from fun j hj => hall j hj (by omega) (by omega))
        clear hall
        go_wp2_with (refine load_set rfl (.tmp 3) 28 rfl w1.heap.size rfl 28 xs hxs 5 Try.underlying28 size28 ?_ ?_)
        · exact R02.out
        refine (first_any xs hxs 0 240 _).mono ?_
        rintro e w3 ⟨n, ok, rfl, hF, hb3⟩
        obtain ⟨rfl, rfl⟩ := first_full hF HA.out
        have R03 := Lib.hid (row_later hb3 R02.out (row_lt R02.out))
        have RB3 := Lib.hid (RB2.out.trans (hb3.mono RS2.out))
        have RS3 := Lib.hid RB3.out.size
        have HCt := Lib.hid (show countP xs = 240 by rw [countP_eq hxs]; exact cnt_full HA.out)
        clear hb3 hF
        go_wp2_with (refine load_set rfl (.tmp 3) 28 rfl w1.heap.size rfl 28 xs hxs 5 Try.underlying28 size28 ?_ ?_)
        · exact R03.out
        refine (count_any xs hxs _).mono ?_
        rintro e w4 ⟨rfl, hb4⟩
        have RB4 := Lib.hid (RB3.out.trans (hb4.mono RS3.out))
        clear hb4
        go_wp2
        go_ret
        exact ⟨ret_bool (by rw [HCt.out]; rfl), RB4.out⟩
    · have hk240 : k = 240 := by omega
      subst hk240
      have HA := Lib.hid (show ∀ j, j < 240 → mem xs j = true from fun j hj => RL.out j (by omega))
      go_wp2_with (refine load_set rfl (.tmp 3) 28 rfl w1.heap.size rfl 28 xs hxs 5 Try.underlying28 size28 ?_ ?_)
      · exact R0.out
      refine (first_any xs hxs 0 240 _).mono ?_
      rintro e w3 ⟨n, ok, rfl, hF, hb3⟩
      obtain ⟨rfl, rfl⟩ := first_full hF HA.out
      have R03 := Lib.hid (row_later hb3 R0.out (row_lt R0.out))
      have RB3 := Lib.hid (RBr.out.trans (hb3.mono RS.out))
      have RS3 := Lib.hid RB3.out.size
      have HCt := Lib.hid (show countP xs = 240 by rw [countP_eq hxs]; exact cnt_full HA.out)
      clear hb3 hF
      go_wp2_with (refine load_set rfl (.tmp 3) 28 rfl w1.heap.size rfl 28 xs hxs 5 Try.underlying28 size28 ?_ ?_)
      · exact R03.out
      refine (count_any xs hxs _).mono ?_
      rintro e w4 ⟨rfl, hb4⟩
      have RB4 := Lib.hid (RB3.out.trans (hb4.mono RS3.out))
      clear hb4
      go_wp2
      go_ret
      exact ⟨ret_bool (by rw [HCt.out]; rfl), RB4.out⟩

set_option maxRecDepth 100000 in
theorem bitsFills_lifted (os : Os) (started : os.Started) (H : Type) (enc : TypeId × Value → H) :
    ReturnsInHanded {} Try.checked os 4 .any (Rows.bitsFillsSpec.pre6 enc Try.prog Try.f4 Rows.bitsFillsRow.domain false) (Rows.bitsFillsSpec.post enc Try.prog Try.f4 false true false false) := by
  refine returnsInHanded_of_change (C := Try.checked) own started (by kernel_rfl) Try.func4
    (ChangeSpec.witness6 (enc := enc) (C := Try.checked) false ⟨#[], #[.agg #[.int .u8 0, .int .u8 0, .int .u8 0, .int .u8 0, .int .u8 0, .int .u8 0, .int .u8 0, .int .u8 0, .int .u8 0, .int .u8 0, .int .u8 0, .int .u8 0, .int .u8 0, .int .u8 0, .int .u8 0, .int .u8 0, .int .u8 0, .int .u8 0, .int .u8 0, .int .u8 0, .int .u8 0, .int .u8 0, .int .u8 0, .int .u8 0, .int .u8 0, .int .u8 0, .int .u8 0, .int .u8 0, .int .u8 0, .int .u8 0]], []⟩ 8 (by kernel_rfl) (by kernel_rfl) (by kernel_rfl) (by kernel_rfl)) ?_
  intro W base args ds gs before hval0 hW hcnd hsz
  have hval : ∀ (j : Nat) t v, Try.f4.params[j]? = some t → args[j]? = some v → Value.okWide Try.prog W .any base t v := hval0
  have hW' := hW
  obtain ⟨p, q, hA0, hV, rfl, hfz, hnd⟩ := hW
  have hA : DataW.TrodAll enc Try.prog W 0 (fun _ => true) true Try.f4.params.toList args.toList ds p := hA0
  rw [Try.params4] at hA hval
  obtain ⟨v0, vs0, d0, ds0, p0, q0, hargs, rfl, rfl, h0, r0⟩ := trodAll_cons hA
  obtain ⟨rfl, rfl, rfl⟩ := trodAll_nil r0
  obtain rfl : args = #[v0] := by cases args; simp_all
  obtain ⟨rfl, rfl⟩ := trodVars_none hV
  have k0 := h0
  have lt0 : ∀ x ∈ p0, x.block < W.heap.size := by obtain ⟨m, hm⟩ := k0; exact DataW.trod_lt m _ _ _ hm
  obtain ⟨s0, rfl, hs0⟩ := open_set (hval 0 22 v0 rfl rfl) h0
  clear hA0 hval0
  refine (walk_bitsFills s0 hs0 W).mono fun e W' ⟨he, bel⟩ => ?_
  subst he
  exact ⟨_, rfl, _, _, _, [], _, [], hW', trodAll_mk1 (shut_bool Try.underlying4 _), (trodAll_cons_mk (Below.trod laidOut (by kernel_rfl) (of_decide_eq_true (by kernel_rfl)) k0 bel lt0) trodAll_mk0), rfl, bel.frame _, fun h => by cases h⟩

theorem bitsFills_holds : Rows.BitsFillsSaid :=
  OpenClaim.holds_of_wide 4 Try.f4 rfl rfl rfl rfl rfl rfl rfl ⟨rfl, rfl, rfl, rfl, rfl⟩ rfl rfl rfl rfl rfl (by kernel_rfl) Try.func4 (by kernel_rfl)
    (of_decide_eq_true (by kernel_rfl)) (by unfold Func.isWrapper; first | (rw [if_pos (by decide +kernel)]; kernel_rfl) | (rw [if_neg (by decide +kernel)]; exact ⟨rfl, rfl⟩))
    (fun os started H enc _ => bitsFills_lifted os started H enc)

#print axioms bitsFills_holds
end Go.Proofs.Ytkeoghekeapgaaa
