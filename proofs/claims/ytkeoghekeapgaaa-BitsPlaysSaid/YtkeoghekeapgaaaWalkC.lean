/-
  The contracts of the reference's Has and of bits.First: each returns what the plain functions of Sets say, and writes nothing that was there.
  Conditions: the arrays' thirty bytes are written as lists of thirty numbers below 256.
-/
import Derived.Test.YtkeoghekeapgaaaWalkB
namespace Go.Proofs.Ytkeoghekeapgaaa
open Go.RowKit

/-- b halved i times. -/
def halve (b i : Nat) : Nat := b / 2 ^ i
theorem halve_succ (b i : Nat) : halve b (i + 1) = halve b i / 2 := by unfold halve; rw [Nat.pow_succ, Nat.div_div_eq_div_mul]
theorem halve_le (b i : Nat) : halve b i ≤ b := Nat.div_le_self _ _
theorem halve_bit (b i : Nat) : b.testBit i = decide (halve b i % 2 = 1) := by unfold halve; rw [Nat.testBit_eq_decide_div_mod_eq]

set_option maxHeartbeats 400000 in
theorem refHas_any (ns : List Nat) (n : Int) (w : World) (hs : Set30 ns) :
    Calls Try.prog 10 #[.agg (Bv ns), .int .i64 n] w fun e w' => e = .returned (.bool (hasP ns n)) ∧ Below w.heap.size w w' := by
  by_cases hn : 0 ≤ n ∧ n < 240
  · obtain ⟨h0, h1⟩ := hn
    have h2 : n ≤ 239 := by omega
    have hin : inB n = true := inB_iff.2 ⟨h0, h1⟩
    have h8 : n / 8 < 30 := by omega
    have h9 : 0 ≤ n / 8 := by omega
    obtain ⟨b, hb⟩ : ∃ b, b = ns.getD (n.toNat / 8) 0 := ⟨_, rfl⟩
    have hbl : b < 256 := hb ▸ hs.getD_lt _
    have hat : (Bv ns)[(n / 8).toNat]? = some (.int .u8 (b : Int)) := by
      rw [Bv_at (by rw [hs.len]; omega), show (n / 8).toNat = n.toNat / 8 by omega, hb]
    obtain ⟨m, hm⟩ : ∃ m : Nat, (m : Int) = n % 8 := ⟨(n % 8).toNat, by omega⟩
    have hm8 : m < 8 := by omega
    have HE := Lib.hid (show hasP ns n = decide (halve b m % 2 = 1) by
      unfold hasP mem; rw [← halve_bit, hin, ← hb, show n.toNat % 8 = m by omega, Bool.true_and])
    have HM := Lib.hid hm.symm
    have hr0 : 0 ≤ n % 8 := by omega
    have hr1 : n % 8 < 8 := by omega
    clear hb hin hm
    go_enter Try.func10, Try.ntmps10
    go_wp2
    go_loop [5, 6] (fun x i => ∃ k : Nat, k ≤ m ∧ i = .int .i64 k ∧ x = .int .u8 ((halve b k : Nat) : Int)) (fun _ i => m - (intOf i).toNat)
    case atStart => exact ⟨0, by omega, rfl, by simp [halve]⟩
    case round =>
      obtain ⟨k, hk, rfl, rfl⟩ := hrel
      have hle := halve_le b k
      have hb1 : (halve b k : Int) ≤ 255 := by omega
      have hb2 : 0 ≤ (halve b k : Int) := by omega
      by_cases hlt : k < m
      · have hlt2 : (k : Int) < n % 8 := by rw [HM.out]; omega
        have HS := Lib.hid (halve_succ b k)
        go_wp2
        go_round
        case rel => exact ⟨k + 1, by omega, by go_num, by rw [HS.out]; go_num⟩
        case measure => simp [intOf]; omega
      · have hkm : k = m := by omega
        subst hkm
        have hlt2 : ¬ (k : Int) < n % 8 := by rw [HM.out]; omega
        go_wp2
        go_ret
        refine ⟨ret_bool ?_, (Below.refl _ _).alloc (Nat.le_refl _) _⟩
        rw [HE.out, Bool.eq_iff_iff]; simp; omega
  · have hin : inB n = false := by simp [inB]; omega
    have HE := Lib.hid (show hasP ns n = false by simp [hasP, hin])
    clear hin
    by_cases hlo : n < 0
    · clear hn
      go_enter Try.func10, Try.ntmps10
      go_wp2
      go_ret
      exact ⟨ret_bool HE.out.symm, (Below.refl _ _).alloc (Nat.le_refl _) _⟩
    · have hhi : 239 < n := by omega
      have hge : 0 ≤ n := by omega
      clear hn hlo
      go_enter Try.func10, Try.ntmps10
      go_wp2
      go_ret
      exact ⟨ret_bool HE.out.symm, (Below.refl _ _).alloc (Nat.le_refl _) _⟩

/-- The first number from f on, below t, that is not in it: n and true; or 0 and false, and there is none. -/
def IsFirst (ns : List Nat) (f t n : Int) (ok : Bool) : Prop :=
  (ok = true ∧ ∃ k : Nat, n = k ∧ k < 240 ∧ f ≤ k ∧ (k : Int) < t ∧ mem ns k = false ∧ ∀ i : Nat, f ≤ i → i < k → mem ns i = true) ∨
  (ok = false ∧ n = 0 ∧ ∀ i : Nat, i < 240 → f ≤ i → (i : Int) < t → mem ns i = true)

def FirstPost (ns : List Nat) (f t : Int) (w : World) (e : Ending) (w' : World) : Prop :=
  ∃ n ok, e = .returned (.tuple #[.int .i64 n, .bool ok]) ∧ IsFirst ns f t n ok ∧ Below w.heap.size w w'

set_option maxRecDepth 100000 in
set_option maxHeartbeats 1000000 in
theorem first_any (ns : List Nat) (hs : Set30 ns) (f t : Int) (w : World) :
    Calls Try.prog 9 #[.agg (Bv ns), .int .i64 f, .int .i64 t] w (FirstPost ns f t w) := by
  have K0 := Lib.hid (heap_alloc_new w (.cells (Bv ns) 28))
  have KB := Lib.hid ((Below.refl w.heap.size w).alloc (Nat.le_refl _) (.cells (Bv ns) 28))
  obtain ⟨k0, hk0, hfk, hlow⟩ : ∃ k0 : Nat, (if 0 ≤ f then f else 0) = (k0 : Int) ∧ f ≤ k0 ∧ ∀ i : Nat, f ≤ i → i < k0 → mem ns i = true := by
    by_cases h : 0 ≤ f
    · exact ⟨f.toNat, by rw [if_pos h]; omega, by omega, fun i h1 h2 => by omega⟩
    · exact ⟨0, by rw [if_neg h]; rfl, by omega, fun i h1 h2 => by omega⟩
  have HK := Lib.hid hk0
  have HLOW := Lib.hid hlow
  clear hk0 hlow
  by_cases hf : 0 ≤ f
  all_goals
    go_enter Try.func9, Try.ntmps9
    go_wp2_with fail
    go_loopw [8] (fun i wr => ∃ k : Nat, f ≤ k ∧ i = .int .i64 k ∧ (∀ j : Nat, f ≤ j → j < k → mem ns j = true) ∧ wr.heap[w.heap.size]? = some (.cells (Bv ns) 28 (0, 0)) ∧ Below w.heap.size w wr) (fun i _ => 240 - (intOf i).toNat)
    case atStart => exact ⟨k0, hfk, by have := HK.out; first | rw [if_pos hf] at this; rw [this] | (rw [if_neg (by omega)] at this; rw [← this]), HLOW.out, K0.out, KB.out⟩
    case round =>
      obtain ⟨k, hfk', rfl, hall, hr, hB⟩ := hrel
      have RA := Lib.hid hall
      have R0 := Lib.hid hr
      have RB := Lib.hid hB
      have hsz : w.heap.size < wr.heap.size := by
        by_cases h : w.heap.size < wr.heap.size
        · exact h
        · rw [Array.getElem?_eq_none (by omega)] at hr; cases hr
      have HSZ := Lib.hid hsz
      clear hall hr hB hsz
      by_cases hc : (k : Int) < t ∧ (k : Int) < 240
      · obtain ⟨hc1, hc2⟩ := hc
        have hmem : hasP ns (k : Int) = mem ns k := hasP_nat (by omega)
        by_cases hm : mem ns k = true
        · have hh : hasP ns (k : Int) = true := by rw [hmem]; exact hm
          have HM := Lib.hid hm
          clear hm hmem
          by_cases ht : t ≤ 240
          all_goals
            go_wp2_with (first | (refine load_set rfl (.tmp 3) 28 rfl w.heap.size rfl 28 ns hs 5 Try.underlying28 size28 ?_ ?_) | (go_at_call 11; refine (has_any ns _ _ hs).mono ?_; rintro e w' ⟨rfl, hb1⟩))
            · exact R0.out
            go_roundw
            case rel => exact ⟨k + 1, by omega, by go_num, fun j h1 h2 => if h : j < k then RA.out j h1 h else by rw [show j = k by omega]; exact HM.out, by rw [hb1.block _ HSZ.out]; exact R0.out, RB.out.trans (hb1.mono (Nat.le_of_lt HSZ.out))⟩
            case measure => simp [intOf]; omega
        · have hm' : mem ns k = false := by simpa using hm
          have hh : hasP ns (k : Int) = false := by rw [hmem]; exact hm'
          have HM := Lib.hid hm'
          clear hm hm' hmem
          by_cases ht : t ≤ 240
          all_goals
            go_wp2_with (first | (refine load_set rfl (.tmp 3) 28 rfl w.heap.size rfl 28 ns hs 5 Try.underlying28 size28 ?_ ?_) | (go_at_call 11; refine (has_any ns _ _ hs).mono ?_; rintro e w' ⟨rfl, hb1⟩))
            · exact R0.out
            go_ret2
            exact ⟨k, true, rfl, .inl ⟨rfl, k, rfl, by omega, hfk', hc1, HM.out, RA.out⟩, RB.out.trans (hb1.mono (Nat.le_of_lt HSZ.out))⟩
      · have hend : t ≤ (k : Int) ∨ 240 ≤ (k : Int) := by omega
        clear hc
        by_cases ht : t ≤ 240
        all_goals
          have hge : ¬ (k : Int) < t ∨ ¬ (k : Int) < 240 := by omega
          first | (have hg1 : ¬ (k : Int) < t := by omega) | (have hg1 : ¬ (k : Int) < 240 := by omega)
          clear hge hend
          go_wp2_with fail
          go_ret2
          exact ⟨0, false, rfl, .inr ⟨rfl, rfl, fun i h1 h2 h3 => RA.out i h2 (by omega)⟩, RB.out⟩

end Go.Proofs.Ytkeoghekeapgaaa
