/-
  The contracts of the reference's List and Of: a set's numbers told of by a list of 240, and the set of such a list.
  Conditions: the array's thirty bytes are written as a list of thirty numbers below 256; the list that Of is handed has 240 cells that can be read.
-/
import Derived.Test.YtkeoghekeapgaaaBack
import Derived.Deep.LoopGhost
namespace Go.Proofs.Ytkeoghekeapgaaa
open Go.RowKit

/-- The set of the first k numbers that a list tells of. -/
def ofK (bl : List Bool) : Nat → List Nat
  | 0 => Zn
  | k + 1 => if bl.getD k false then withP (ofK bl k) (k : Int) else ofK bl k
theorem Set30.ofK (bl : List Bool) (k : Nat) : Set30 (ofK bl k) := by
  induction k with
  | zero => exact Zn_set
  | succ k ih =>
    unfold Ytkeoghekeapgaaa.ofK
    split
    · exact ih.with _
    · exact ih
theorem mem_ofK (bl : List Bool) (k : Nat) (hk : k ≤ 240) (i : Nat) (hi : i < 240) : mem (ofK bl k) i = (decide (i < k) && bl.getD i false) := by
  induction k with
  | zero => rw [ofK, Zn_at i hi]; simp
  | succ k ih =>
    have ih := ih (by omega)
    rw [ofK]
    by_cases e : i = k
    · subst e
      split
      · rename_i h
        rw [mem_with (Set30.ofK bl i) hi, inB_nat hi, h]; simp
      · rename_i h
        rw [ih]; simp at h; simp [h]
    · have e2 : decide (i < k + 1) = decide (i < k) := decide_eq_decide.2 (by omega)
      rw [e2, ← ih]
      split
      · rw [mem_with (Set30.ofK bl k) hi, inB_nat (by omega : k < 240)]; simp [e]
      · rfl
def ofP (bl : List Bool) : List Nat := ofK bl 240
theorem Set30.ofP (bl : List Bool) : Set30 (ofP bl) := Set30.ofK bl 240
theorem mem_ofP (bl : List Bool) (i : Nat) (hi : i < 240) : mem (ofP bl) i = bl.getD i false := by
  rw [ofP, mem_ofK bl 240 (Nat.le_refl _) i hi]; simp [hi]

/-- A byte of the set so far is below the next bit. -/
theorem ofK_lt (bl : List Bool) (k : Nat) (hk : k < 240) : (ofK bl k).getD (k / 8) 0 < 2 ^ (k % 8) := by
  apply Nat.lt_pow_two_of_testBit
  intro j hj
  by_cases h8 : 8 ≤ j
  · exact testBit_high ((Set30.ofK bl k).getD_lt _) h8
  · have h1 := mem_ofK bl k (by omega) (8 * (k / 8) + j) (by omega)
    unfold mem at h1
    rw [show (8 * (k / 8) + j) / 8 = k / 8 by omega, show (8 * (k / 8) + j) % 8 = j by omega] at h1
    rw [h1, decide_eq_false (by omega)]; rfl
theorem add_or {b j : Nat} (h : b < 2 ^ j) : b + 2 ^ j = b ||| 2 ^ j := by
  have := Nat.two_pow_add_eq_or_of_lt h 1
  rw [Nat.mul_one] at this
  rw [Nat.add_comm, this, Nat.or_comm]

/-- 2 by itself m times. -/
def pw (m : Nat) : Nat := 2 ^ m
theorem pw_succ (m : Nat) : pw (m + 1) = pw m * 2 := Nat.pow_succ ..
theorem pw_le {m : Nat} (h : m ≤ 7) : pw m ≤ 128 := Nat.pow_le_pow_right (n := 2) (by omega) h

theorem ofK_put {bl : List Bool} {k : Nat} (hk : k < 240) (hb : bl.getD k false = true) : ofK bl (k + 1) = (ofK bl k).set (k / 8) ((ofK bl k).getD (k / 8) 0 + pw (k % 8)) := by
  have h1 := ofK_lt bl k hk
  unfold pw
  rw [add_or h1, ofK, if_pos hb]
  unfold withP
  rw [if_pos (inB_nat hk), Int.toNat_natCast]
theorem ofK_keep {bl : List Bool} {k : Nat} (hb : bl.getD k false = false) : ofK bl (k + 1) = ofK bl k := by
  rw [ofK, hb]; rfl

set_option maxRecDepth 100000 in
set_option maxHeartbeats 1000000 in
theorem of_any (bl : List Bool) (g cap : Nat) (w : World) (hg : g < w.heap.size) (hc : ∀ j, j < 240 → w.cell? ⟨g, j, none⟩ = some (.bool (bl.getD j false))) :
    Calls Try.prog 16 #[.slice (some ⟨g, 0, none⟩) 240 cap] w fun e w' => e = .returned (.agg (Bv (ofP bl))) ∧ Below w.heap.size w w' := by
  have HB := Lib.hid (((Below.refl w.heap.size w).alloc (Nat.le_refl _) (.cells Z30 22)).alloc (by simp) (.cells Z30 22))
  have A0 := Lib.hid (heap_alloc2_old w (.cells Z30 22) (.cells Z30 22))
  have A1 := Lib.hid (heap_alloc2_new w (.cells Z30 22) (.cells Z30 22))
  have HC := Lib.hid hc
  clear hc
  go_enter Try.func16, Try.ntmps16
  go_wp2_with fail
  go_loopw [4] (fun i wr => ∃ k : Nat, k ≤ 240 ∧ i = .int .i64 k ∧ wr.heap[w.heap.size]? = some (.cells Z30 22 (0, 0)) ∧ wr.heap[w.heap.size + 1]? = some (.cells (Bv (ofK bl k)) 22 (0, 0)) ∧ Below w.heap.size w wr) (fun i _ => 240 - (intOf i).toNat)
  case atStart => exact ⟨0, by omega, rfl, A0.out, by rw [ofK, Zn_Bv]; exact A1.out, HB.out⟩
  case round =>
    obtain ⟨k, hk, rfl, hr0, hr1, hB⟩ := hrel
    have R0 := Lib.hid hr0
    have R1 := Lib.hid hr1
    have RB := Lib.hid hB
    clear hr0 hr1 hB
    by_cases hlt : k < 240
    · have hcell : wr.cell? ⟨g, k, none⟩ = some (.bool (bl.getD k false)) := (RB.out.cell (p := ⟨g, k, none⟩) hg).trans (HC.out k hlt)
      obtain ⟨x, hx⟩ : ∃ x, bl.getD k false = x := ⟨_, rfl⟩
      rw [hx] at hcell
      have HX := Lib.hid hx
      clear hx
      cases x with
      | false =>
        have HE := Lib.hid (ofK_keep HX.out)
        go_wp2_with fail
        go_roundw
        case rel => exact ⟨k + 1, by omega, by go_num, R0.out, by rw [HE.out]; exact R1.out, RB.out⟩
        case measure => simp [intOf]; omega
      | true =>
        have HE := Lib.hid (ofK_put hlt HX.out)
        obtain ⟨b, hb⟩ : ∃ b, b = (ofK bl k).getD (k / 8) 0 := ⟨_, rfl⟩
        have hbl : b < 256 := hb ▸ (Set30.ofK bl k).getD_lt _
        have hsum : b + pw (k % 8) < 256 := by
          have h1 := ofK_lt bl k hlt
          rw [← hb] at h1
          have h2 : pw (k % 8) ≤ 128 := pw_le (by omega)
          unfold pw at h2 ⊢
          omega
        have hbc : wr.cell? ⟨w.heap.size + 1, k / 8, none⟩ = some (.int .u8 (b : Int)) := by
          rw [cell_of_row wr _ _ _ _ _ R1.out, Bv_at (by rw [(Set30.ofK bl k).len]; omega), hb]
        have hbf : wr.frozen? ⟨w.heap.size + 1, k / 8, none⟩ = false := frozen_of_row wr _ _ _ _ R1.out
        have HBv := Lib.hid hb
        clear hb
        have hk8 : k / 8 < 30 := by omega
        obtain ⟨wo, rfl⟩ : ∃ wo : World, wo = wr := ⟨_, rfl⟩
        go_wp2_with fail
        go_loop [5, 6] (fun x i => ∃ m : Nat, m ≤ k % 8 ∧ i = .int .i64 m ∧ x = .int .u8 ((pw m : Nat) : Int)) (fun _ i => 8 - (intOf i).toNat)
        case atStart => exact ⟨0, by omega, rfl, rfl⟩
        case round =>
          obtain ⟨m, hm, rfl, rfl⟩ := hrel
          by_cases hm2 : m < k % 8
          · have hp : pw m ≤ 64 := by
              have := pw_le (show m + 1 ≤ 7 by omega)
              rw [pw_succ] at this; omega
            have HP := Lib.hid (pw_succ m)
            have hm3 : (m : Int) < (k : Int) % 8 := by omega
            go_wp2_with fail
            go_round
            case rel => exact ⟨m + 1, by omega, by go_num, by rw [HP.out]; go_num⟩
            case measure => simp [intOf]; omega
          · have hme : m = k % 8 := by omega
            subst hme
            have hm3 : ¬ ((k % 8 : Nat) : Int) < (k : Int) % 8 := by omega
            go_wp2_with fail
            go_roundw
            case rel => exact ⟨k + 1, by omega, by go_num, by rw [heap_setCell_other _ _ _ _ (by simp)]; exact R0.out, by rw [heap_setCell_same _ _ _ _ _ _ R1.out, HE.out, ← HBv.out]; simp [Bv, List.map_set], RB.out.setCell (by simp) _⟩
            case measure => simp [intOf]; omega
    · have hk240 : k = 240 := by omega
      subst hk240
      have hS := Set30.ofP bl
      have R1' := Lib.hid (show wr.heap[w.heap.size + 1]? = some (.cells (Bv (ofP bl)) 22 (0, 0)) from R1.out)
      go_wp2_with (first | (refine load_set rfl (.tmp 3) 22 rfl (w.heap.size + 1) rfl 22 (ofP bl) hS 5 Try.underlying22 size22 ?_ ?_) | (refine store_set rfl (.tmp 2) (.tmp 38) 22 rfl w.heap.size (ofP bl) rfl rfl hS 22 Z30 size22 Z30_size ?_ ?_))
      · exact R1'.out
      · exact R0.out
      · exact bodyPost_ret (results_set rfl _ _ w.heap.size 22 (ofP bl) 5 hS rfl (setRow_heap _ _ Z30 _ _ _ R0.out) Try.underlying22 size22) rfl ⟨rfl, below_setRow RB.out (Nat.le_refl _) _⟩

theorem info4 : (Try.prog.info? 4).map (fun i => (i.zero, i.size, i.bytes)) = some (some (.bool false), 1, 1) := by kernel_rfl

/-- A set's first k numbers, told of by a list. -/
def bitsK (ns : List Nat) (k : Nat) : List Bool := (List.range k).map (mem ns)
theorem bitsK_succ (ns : List Nat) (k : Nat) : bitsK ns (k + 1) = bitsK ns k ++ [mem ns k] := by unfold bitsK; rw [List.range_succ, List.map_append]; rfl
theorem bitsK_len (ns : List Nat) (k : Nat) : (bitsK ns k).length = k := by simp [bitsK]
theorem bitsK_getD {ns : List Nat} {k i : Nat} (h : i < k) : (bitsK ns k).getD i false = mem ns i := by simp [bitsK, h]

/-- The value v owns, among the blocks from B on, a row whose first n cells are these bools. -/
def OwnsB (w : World) (B : Nat) (v : Value) (bl : List Bool) : Prop := w.ownsRow B 4 1 v bl.length (bl.map Value.bool)

def ListPost (ns : List Nat) (w : World) (e : Ending) (w' : World) : Prop := ∃ v, e = .returned v ∧ OwnsB w' w.heap.size v (bitsK ns 240) ∧ Below w.heap.size w w'

theorem owns_below {W w : World} {B : Nat} {e : TypeId} {s : Nat} {v : Value} {n : Nat} {xs : List Value} (h : W.ownsRow B e s v n xs) (hb : Below W.heap.size W w) : w.ownsRow B e s v n xs := by
  obtain ⟨h1, h2⟩ := h
  refine ⟨h1, ?_⟩
  rcases h2 with h2 | ⟨g, cap, cur, hv, hg, hh, r⟩
  · exact .inl h2
  · exact .inr ⟨g, cap, cur, hv, hg, row_in hb hh, r⟩

set_option maxRecDepth 100000 in
set_option maxHeartbeats 1000000 in
theorem list_any (ns : List Nat) (hs : Set30 ns) (w : World) : Calls Try.prog 15 #[.agg (Bv ns)] w (ListPost ns w) := by
  obtain ⟨i0, hi, hz0, hz1, hz2⟩ := info_parts info4
  have K0 := Lib.hid (heap_alloc_new w (.cells (Bv ns) 22))
  have KB := Lib.hid ((Below.refl w.heap.size w).alloc (Nat.le_refl _) (.cells (Bv ns) 22))
  go_enter Try.func15, Try.ntmps15
  go_wp2_with fail
  go_loopw [3, 4] (fun v i wr => ∃ k : Nat, k ≤ 240 ∧ i = .int .i64 k ∧ wr.ownsRow (w.heap.size + 1) 4 1 v k ((bitsK ns k).map Value.bool) ∧ wr.heap[w.heap.size]? = some (.cells (Bv ns) 22 (0, 0)) ∧ Below w.heap.size w wr) (fun _ i _ => 240 - (intOf i).toNat)
  case atStart => exact ⟨0, by omega, rfl, World.ownsRow_nil _ _ _ _, K0.out, KB.out⟩
  case round =>
    obtain ⟨k, hk, rfl, hown, hr, hB⟩ := hrel
    have R0 := Lib.hid hr
    have RB := Lib.hid hB
    have RS := Lib.hid hB.size
    have RO := Lib.hid hown
    clear hr hB hown
    by_cases hlt : k < 240
    · have hh := hasP_nat (ns := ns) hlt
      have hcall := fun W => refHas_any ns (k : Int) W hs
      rw [hh] at hcall
      clear hh
      have HC := Lib.hid hcall
      clear hcall
      go_wp2_with (refine load_set rfl (.tmp 1) 22 rfl w.heap.size rfl 22 ns hs 5 Try.underlying22 size22 ?_ ?_)
      · exact R0.out
      refine (HC.out _).mono ?_
      rintro e w2 ⟨rfl, hb2⟩
      have R02 := Lib.hid (row_later hb2 R0.out (row_lt R0.out))
      have RB2 := Lib.hid (RB.out.trans (hb2.mono RS.out))
      have RO2 := Lib.hid (owns_below RO.out hb2)
      have HL2 := Lib.hid (row_lt R02.out)
      have RS2 := Lib.hid RB2.out.size
      clear hb2
      go_wp2_with (at_builtin; refine wpList_append_own _ rfl _ _ 33 rfl (w.heap.size + 1) 4 i0 (.bool false) 1 1 Try.underlying33 hi hz0 hz1 hz2 rfl (by decide) _ _ _ rfl (RO2.out.alloc _) ⟨w2.heap.size, 0, none⟩ 1 1 [.bool (mem ns k)] rfl rfl ?c1 ?c2 ?c3 ?c4 ?c5 ?_)
      case c1 => exact cell_one_new _ _ _
      case c2 => intro u hu; simp at hu; subst hu; rfl
      case c3 => unfold maxLen; omega
      case c4 => omega
      case c5 => have := HL2.out; simp; omega
      intro v' w3 hown' hgrow _
      have RO3 := Lib.hid hown'
      have RB3 := Lib.hid ((RB2.out.alloc RS2.out _).grown hgrow (by have := RS2.out; simp; omega) (fun j hj => by have := (RO2.out.lt j hj).1; omega))
      have R03 := Lib.hid (show w3.heap[w.heap.size]? = _ from (hgrow.block _ (by have := HL2.out; simp; omega) (fun e => by have := (RO2.out.lt _ e.symm).1; omega)).trans ((Go.heap_alloc_old _ _ HL2.out).trans R02.out))
      clear hown' hgrow
      go_wp2_with fail
      go_roundw
      case rel => exact ⟨k + 1, by omega, by go_num, by rw [bitsK_succ, List.map_append]; exact RO3.out, R03.out, RB3.out⟩
      case measure => simp [intOf]; omega
    · have hk240 : k = 240 := by omega
      subst hk240
      go_wp2_with fail
      go_ret
      refine ⟨_, rfl, ?_, RB.out⟩
      unfold OwnsB
      rw [bitsK_len]
      obtain ⟨h1, h2⟩ := RO.out
      refine ⟨h1, ?_⟩
      rcases h2 with h2 | ⟨g, cap, cur, hv, hg, r⟩
      · exact .inl h2
      · exact .inr ⟨g, cap, cur, hv, by omega, r⟩

end Go.Proofs.Ytkeoghekeapgaaa
