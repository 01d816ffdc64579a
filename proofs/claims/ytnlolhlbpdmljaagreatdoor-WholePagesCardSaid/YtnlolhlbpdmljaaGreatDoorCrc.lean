/-
  The contracts of crc.half, crc.words, crc.More, crc.Sum and of the reference's Sum: each returns what the plain functions of Sums say, and writes nothing that was there.
  Conditions: a text is no longer than the longest that a length can tell.
-/
import Derived.Test.YtnlolhlbpdmljaaGreatDoorGen
import Derived.Test.YtnlolhlbpdmljaaGreatDoorSums
import Derived.Test.YtnlolhlbpdmljaaGreatDoorKit
import Derived.Deep.WholeRow
namespace Go.Proofs.YtnlolhlbpdmljaaGreatDoor
open Go.RowKit
theorem ret_int {k : IntKind} {a b : Int} (h : a = b) : Ending.returned (.int k a) = .returned (.int k b) := by rw [h]
theorem ret_bool {a b : Bool} (h : a = b) : Ending.returned (.bool a) = .returned (.bool b) := by rw [h]

/-- A 32-bit number as a natural one. -/
def un (x : BitVec 32) : Nat := x.toNat
theorem un_lt (x : BitVec 32) : un x < 4294967296 := x.isLt
theorem un_inj {x y : BitVec 32} (h : un x = un y) : x = y := BitVec.eq_of_toNat_eq h
theorem un_of (n : Nat) (h : n < 4294967296) : un (BitVec.ofNat 32 n) = n := by unfold un; rw [BitVec.toNat_ofNat]; exact Nat.mod_eq_of_lt h

theorem xor_un (x y : BitVec 32) : bits BinOp.xor IntKind.u32 (un x : Int) (un y : Int) = (un (x ^^^ y) : Int) := by
  rw [u32_xor_nat _ _ (un_lt x) (un_lt y)]; rfl

theorem half_step (y : BitVec 32) : bits BinOp.xor IntKind.u32 ((un y : Int) / 2) (3988292384 * bits BinOp.and IntKind.u32 (un y : Int) 1 % 4294967296) = (un (f y) : Int) := by
  have h1 : bits BinOp.and IntKind.u32 (un y : Int) 1 = ((un y % 2 : Nat) : Int) := by
    have := u32_and_nat (un y) 1 (un_lt y) (by omega)
    rw [Nat.and_one_is_mod] at this
    exact this
  have h2 : ((un y : Nat) : Int) / (2 : Int) = ((un (y >>> 1) : Nat) : Int) := by
    unfold un
    rw [BitVec.toNat_ushiftRight, Nat.shiftRight_eq_div_pow]
    simp
  have h3 : (3988292384 * ((un y % 2 : Nat) : Int) % 4294967296) = (un (if y.getLsbD 0 then poly else 0#32) : Int) := by
    have e : y.getLsbD 0 = decide (un y % 2 = 1) := by unfold un; rw [BitVec.getLsbD, Nat.testBit_zero]
    rw [e]
    rcases Nat.mod_two_eq_zero_or_one (un y) with h | h
    · rw [h]; rfl
    · rw [h]; rfl
  rw [h1, h2, h3, xor_un]
  rfl

set_option maxRecDepth 100000 in
set_option maxHeartbeats 400000 in
theorem half_any (x : BitVec 32) (w : World) :
    Calls Tryz.prog 92 #[.int .u32 (un x : Int)] w fun e w' => e = .returned (.int .u32 (un (fn 4 x) : Int)) ∧ w = w' := by
  go_enter Tryz.func92, Tryz.ntmps92
  go_wp2
  go_loop [0, 3] (fun r i => ∃ k : Nat, k ≤ 4 ∧ i = .int .i64 k ∧ r = .int .u32 (un (fn k x) : Int)) (fun _ i => 4 - (intOf i).toNat)
  case atStart => exact ⟨0, by omega, rfl, rfl⟩
  case round =>
    obtain ⟨k, hk, rfl, rfl⟩ := hrel
    have hl := un_lt (fn k x)
    have HS := Lib.hid (half_step (fn k x))
    by_cases hlt : k < 4
    · go_wp2
      go_round
      case rel => exact ⟨k + 1, by omega, by go_num, by rw [HS.out]; rfl⟩
      case measure => simp [intOf]; omega
    · have hk4 : k = 4 := by omega
      subst hk4
      go_wp2
      go_ret
      exact ⟨rfl, rfl⟩

/-- Numbers as an array's cells. -/
def Uv (ns : List Nat) : Array Value := (ns.map fun (b : Nat) => Value.int .u32 (b : Int)).toArray
theorem Uv_size (ns : List Nat) : (Uv ns).size = ns.length := by simp [Uv]
theorem Uv_at {ns : List Nat} {i : Nat} (h : i < ns.length) : (Uv ns)[i]? = some (.int .u32 ((ns.getD i 0 : Nat) : Int)) := by
  simp [Uv, List.getElem?_eq_getElem h]
theorem Uv_set (ns : List Nat) (i b : Nat) : (Uv ns).setIfInBounds i (.int .u32 (b : Int)) = Uv (ns.set i b) := by
  simp [Uv, List.map_set]
theorem Uv_one (ns : List Nat) : (Uv ns).all (·.oneCell') = true := by
  simp [Uv, Value.oneCell']

/-- The first k words; noughts behind them. -/
def wordsK (k : Nat) : List Nat := (List.range 16).map fun i => if i < k then un (fn 4 (BitVec.ofNat 32 i)) else 0
theorem wordsK_len (k : Nat) : (wordsK k).length = 16 := by simp [wordsK]
theorem wordsK_getD {k i : Nat} (h : i < 16) : (wordsK k).getD i 0 = if i < k then un (fn 4 (BitVec.ofNat 32 i)) else 0 := by simp [wordsK, h]
theorem wordsK_succ (k : Nat) : wordsK (k + 1) = (wordsK k).set k (un (fn 4 (BitVec.ofNat 32 k))) := by
  apply List.ext_getElem?
  intro i
  rw [List.getElem?_set]
  by_cases hi : i < 16
  · by_cases e : k = i
    · subst e; simp [wordsK, hi]
    · have e2 : (i < k + 1) = (i < k) := propext ⟨fun h => by omega, fun h => by omega⟩
      simp only [wordsK, List.getElem?_map, List.getElem?_range hi, Option.map_some, e2, if_neg e]
  · by_cases e : k = i
    · subst e
      rw [List.getElem?_eq_none (by rw [wordsK_len]; omega)]
      simp [wordsK_len]; omega
    · rw [if_neg e, List.getElem?_eq_none (by rw [wordsK_len]; omega), List.getElem?_eq_none (by rw [wordsK_len]; omega)]
def Z16 : Array Value := (List.replicate 16 (Value.int .u32 0)).toArray
theorem words_zero : Uv (wordsK 0) = Z16 := by rfl
theorem size138 : (Tryz.prog.info? 138).map (·.size) = some 16 := by kernel_rfl

set_option maxRecDepth 100000 in
set_option maxHeartbeats 1000000 in
theorem words_any (w : World) : Calls Tryz.prog 64 #[] w fun e w' => e = .returned (.agg (Uv (wordsK 16))) ∧ Below w.heap.size w w' := by
  have HB := Lib.hid (((Below.refl w.heap.size w).alloc (Nat.le_refl _) (.cells Z16 138)).alloc (by simp) (.cells Z16 138))
  have A0 := Lib.hid (heap_alloc2_old w (.cells Z16 138) (.cells Z16 138))
  have A1 := Lib.hid (heap_alloc2_new w (.cells Z16 138) (.cells Z16 138))
  go_enter Tryz.func64, Tryz.ntmps64
  go_wp2_with fail
  go_loopw [3] (fun i wr => ∃ k : Nat, k ≤ 16 ∧ i = .int .i64 k ∧ wr.heap[w.heap.size]? = some (.cells Z16 138 (0, 0)) ∧ wr.heap[w.heap.size + 1]? = some (.cells (Uv (wordsK k)) 138 (0, 0)) ∧ Below w.heap.size w wr) (fun i _ => 16 - (intOf i).toNat)
  case atStart => exact ⟨0, by omega, rfl, A0.out, by rw [words_zero]; exact A1.out, HB.out⟩
  case round =>
    obtain ⟨k, hk, rfl, hr0, hr1, hB⟩ := hrel
    have R0 := Lib.hid hr0
    have R1 := Lib.hid hr1
    have RB := Lib.hid hB
    clear hr0 hr1 hB
    by_cases hlt : k < 16
    · have hcall := fun W => half_any (BitVec.ofNat 32 k) W
      rw [un_of k (by omega)] at hcall
      have HC := Lib.hid hcall
      clear hcall
      have hbc : wr.cell? ⟨w.heap.size + 1, k, none⟩ = some (.int .u32 (((wordsK k).getD k 0 : Nat) : Int)) := by
        rw [cell_of_row wr _ _ _ _ _ R1.out, Uv_at (by rw [wordsK_len]; exact hlt)]
      have hbf : wr.frozen? ⟨w.heap.size + 1, k, none⟩ = false := frozen_of_row wr _ _ _ _ R1.out
      have HS := Lib.hid (wordsK_succ k)
      go_wp2_with (go_at_call 92; refine (HC.out _).mono ?_; rintro e w' ⟨rfl, rfl⟩)
      go_roundw
      case rel => exact ⟨k + 1, by omega, by go_num, by rw [heap_setCell_other _ _ _ _ (by simp)]; exact R0.out, by rw [heap_setCell_same _ _ _ _ _ _ R1.out, Uv_set, HS.out], RB.out.setCell (by simp) _⟩
      case measure => simp [intOf]; omega
    · have hk16 : k = 16 := by omega
      subst hk16
      have hsz : (Tryz.prog.info? 138).map (·.size) = some (Uv (wordsK 16)).size := by rw [Uv_size, wordsK_len]; exact size138
      have hsz2 : Z16.size = (Uv (wordsK 16)).size := by rw [Uv_size, wordsK_len]; rfl
      have HZ := Lib.hid hsz
      have HZ2 := Lib.hid hsz2
      clear hsz hsz2
      go_wp2_with (first | (refine wpList_load_row rfl 138 (.tmp 1) rfl (w.heap.size + 1) rfl 138 (Uv (wordsK 16)) (0, 0) _ ?_ Tryz.underlying138 rfl HZ.out ?_) | (refine wpList_store_row rfl 138 (.tmp 0) (.tmp 12) rfl w.heap.size (Uv (wordsK 16)) rfl rfl 138 Z16 ?_ HZ.out HZ2.out (Uv_one _) ?_))
      · exact R1.out
      · exact R0.out
      · exact bodyPost_ret (results_cell_row rfl _ _ w.heap.size 138 (Uv (wordsK 16)) (0, 0) _ rfl (setRow_heap _ _ Z16 _ _ _ R0.out) Tryz.underlying138 rfl HZ.out) rfl ⟨rfl, RB.out.trans ⟨rfl, rfl, rfl, by simp, fun j hj => setRow_other _ _ _ _ (by omega)⟩⟩

/-- A text's k first bytes. -/
theorem take_snoc {s : ByteArray} {k : Nat} (h : k < s.size) : s.data.toList.take (k + 1) = s.data.toList.take k ++ [s[k]] := by
  rw [List.take_succ_eq_append_getElem (by simpa using h)]; rfl
def foldK (x : BitVec 32) (s : ByteArray) (k : Nat) : BitVec 32 := fold x (s.data.toList.take k)
theorem foldK_succ (x : BitVec 32) {s : ByteArray} {k : Nat} (h : k < s.size) : foldK x s (k + 1) = step (foldK x s k) s[k] := by
  unfold foldK; rw [take_snoc h, fold_append]; rfl
theorem foldK_all (x : BitVec 32) (s : ByteArray) : foldK x s s.size = fold x s.data.toList := by unfold foldK; rw [List.take_of_length_le (by simp)]

/-- The two half steps of a byte. -/
theorem byte_one (r : BitVec 32) (b : UInt8) : bits BinOp.xor IntKind.u32 (un r : Int) ((b.toNat : Nat) : Int) = (un (r ^^^ byteV b) : Int) := by
  have : ((b.toNat : Nat) : Int) = (un (byteV b) : Int) := by unfold byteV; rw [un_of _ (by have := b.toNat_lt; omega)]
  rw [this, xor_un]
theorem byte_half (r : BitVec 32) : bits BinOp.xor IntKind.u32 (((un r : Nat) : Int) / (16 : Int)) (((wordsK 16).getD (un r % 16) 0 : Nat) : Int) = (un (fn 4 r) : Int) := by
  have h1 : ((un r : Nat) : Int) / (16 : Int) = ((un (r >>> 4) : Nat) : Int) := by
    unfold un
    rw [BitVec.toNat_ushiftRight, Nat.shiftRight_eq_div_pow]
    simp
  have h2 : (wordsK 16).getD (un r % 16) 0 = un (fn 4 (r &&& 15#32)) := by
    rw [wordsK_getD (by omega), if_pos (by omega)]
    congr 2
    apply BitVec.eq_of_toNat_eq
    rw [BitVec.toNat_ofNat, BitVec.toNat_and]
    show un r % 16 % 4294967296 = un r &&& 15
    rw [Nat.mod_eq_of_lt (by omega)]
    exact (Nat.and_two_pow_sub_one_eq_mod (un r) 4).symm
  rw [h1, h2, xor_un, ← four]

theorem store_newA {P : Program} {ops : Array Oper} {rest : List Oper} {o : Oper} {a : Act} {w : World} {Q : Exit → Act → World → Prop} (hgd : o.guard = none) (x y : Operand) (ty : TypeId) (ho : o.op = .store ty x y) (cells : Array Value)
    (hx : a.eval x = .pointer (some ⟨w.heap.size, 0, none⟩)) (hy : a.eval y = .agg cells) (t : TypeId) (old : Array Value) (hi : (P.info? ty).map (·.size) = some cells.size) (ho' : old.size = cells.size) (h1 : cells.all (·.oneCell') = true)
    (h : wpList P ops Q rest (a.put o.dst undef) (w.alloc (.cells cells t))) : wpList P ops Q (o :: rest) a (w.alloc (.cells old t)) :=
  wpList_store_row hgd ty x y ho w.heap.size cells hx hy t old (heap_alloc_new _ _) hi ho' h1 (by rw [World.setRow_alloc_new]; exact h)

theorem hsz34 : (Tryz.prog.info? 138).map (·.size) = some (Uv (wordsK 16)).size := by rw [Uv_size, wordsK_len]; exact size138
theorem ones_un : un ones = 4294967295 := rfl
theorem xor_ones (x : BitVec 32) : bits BinOp.xor IntKind.u32 (un x : Int) 4294967295 = (un (x ^^^ ones) : Int) := xor_un x ones

set_option maxRecDepth 100000 in
set_option maxHeartbeats 1000000 in
theorem more_any (x : BitVec 32) (s : ByteArray) (hsz : s.size ≤ maxLen) (w : World) :
    Calls Tryz.prog 37 #[.int .u32 (un x : Int), .string s] w fun e w' => e = .returned (.int .u32 (un (moreP x s.data.toList) : Int)) ∧ Below w.heap.size w w' := by
  unfold maxLen at hsz
  go_enter Tryz.func37, Tryz.ntmps37
  go_wp2_with fail
  refine (words_any _).mono ?_
  rintro e w1 ⟨rfl, hb1⟩
  have K5 := Lib.hid (heap_alloc_new w1 (.cells (Uv (wordsK 16)) 138))
  have KB := Lib.hid (hb1.alloc hb1.size (.cells (Uv (wordsK 16)) 138))
  have hxo := xor_ones x
  clear hb1
  go_wp2_with (refine store_newA rfl (.tmp 5) (.tmp 8) 138 rfl (Uv (wordsK 16)) rfl rfl 138 _ hsz34 (by rw [Uv_size, wordsK_len]; rfl) (Uv_one _) ?_)
  clear hxo
  go_loop [6, 13] (fun r i => ∃ k : Nat, k ≤ s.size ∧ i = .int .i64 k ∧ r = .int .u32 (un (foldK (x ^^^ ones) s k) : Int)) (fun _ i => s.size - (intOf i).toNat)
  case atStart => exact ⟨0, by omega, rfl, rfl⟩
  case round =>
    obtain ⟨k, hk, rfl, rfl⟩ := hrel
    by_cases hlt : k < s.size
    · obtain ⟨r0, hr0⟩ : ∃ r, r = foldK (x ^^^ ones) s k := ⟨_, rfl⟩
      obtain ⟨r1, hr1⟩ : ∃ r, r = r0 ^^^ byteV s[k] := ⟨_, rfl⟩
      obtain ⟨r2, hr2⟩ : ∃ r, r = fn 4 r1 := ⟨_, rfl⟩
      obtain ⟨r3, hr3⟩ : ∃ r, r = fn 4 r2 := ⟨_, rfl⟩
      have HS := Lib.hid (show foldK (x ^^^ ones) s (k + 1) = r3 by rw [foldK_succ _ hlt, ← hr0, hr3, hr2, hr1]; unfold step; rw [← fn_add])
      rw [← hr0]
      have e1 := byte_one r0 s[k]
      rw [← hr1] at e1
      have e2 := byte_half r1
      rw [← hr2] at e2
      have e3 := byte_half r2
      rw [← hr3] at e3
      obtain ⟨t1, ht1⟩ : ∃ t, t = (wordsK 16).getD (un r1 % 16) 0 := ⟨_, rfl⟩
      obtain ⟨t2, ht2⟩ : ∃ t, t = (wordsK 16).getD (un r2 % 16) 0 := ⟨_, rfl⟩
      rw [← ht1] at e2
      rw [← ht2] at e3
      have hc1 : (w1.alloc (.cells (Uv (wordsK 16)) 138)).cell? ⟨w1.heap.size, un r1 % 16, none⟩ = some (.int .u32 (t1 : Int)) := by
        rw [cell_of_row _ _ _ _ _ _ K5.out, Uv_at (by rw [wordsK_len]; omega), ht1]
      have hc2 : (w1.alloc (.cells (Uv (wordsK 16)) 138)).cell? ⟨w1.heap.size, un r2 % 16, none⟩ = some (.int .u32 (t2 : Int)) := by
        rw [cell_of_row _ _ _ _ _ _ K5.out, Uv_at (by rw [wordsK_len]; omega), ht2]
      have l0 := un_lt r0
      have l1 := un_lt r1
      have l2 := un_lt r2
      have lb := (s[k]).toNat_lt
      clear hr0 hr1 hr2 hr3 ht1 ht2
      go_wp2
      go_round
      case rel => exact ⟨k + 1, by omega, by go_num, by rw [HS.out]⟩
      case measure => simp [intOf]; omega
    · have hke : k = s.size := by omega
      subst hke
      have HA := Lib.hid (foldK_all (x ^^^ ones) s)
      have hxo := xor_ones (foldK (x ^^^ ones) s s.size)
      go_wp2
      go_ret
      exact ⟨ret_int (by rw [HA.out]; rfl), KB.out⟩

set_option maxRecDepth 100000 in
set_option maxHeartbeats 400000 in
theorem sum_any (s : ByteArray) (hsz : s.size ≤ maxLen) (w : World) :
    Calls Tryz.prog 18 #[.string s] w fun e w' => e = .returned (.int .u32 (un (sumP s.data.toList) : Int)) ∧ Below w.heap.size w w' := by
  go_enter Tryz.func18, Tryz.ntmps18
  go_wp2_with fail
  refine (more_any 0#32 s hsz _).mono ?_
  rintro e w1 ⟨rfl, hb1⟩
  go_wp2
  go_ret
  exact ⟨rfl, hb1⟩

theorem odd_step {y : BitVec 32} (h : un y % 2 = 1) : bits BinOp.xor IntKind.u32 (((un y : Nat) : Int) / (2 : Int)) 3988292384 = (un (f y) : Int) := by
  have := half_step y
  have h1 : bits BinOp.and IntKind.u32 (un y : Int) 1 = ((un y % 2 : Nat) : Int) := by
    have := u32_and_nat (un y) 1 (un_lt y) (by omega)
    rw [Nat.and_one_is_mod] at this
    exact this
  rw [h1, h] at this
  exact this
theorem even_step {y : BitVec 32} (h : un y % 2 = 0) : ((un y : Nat) : Int) / (2 : Int) = (un (f y) : Int) := by
  have e : y.getLsbD 0 = decide (un y % 2 = 1) := by unfold un; rw [BitVec.getLsbD, Nat.testBit_zero]
  rw [f_even (by rw [e, h]; rfl)]
  unfold un
  rw [BitVec.toNat_ushiftRight, Nat.shiftRight_eq_div_pow]
  simp

theorem sub_ones (x : BitVec 32) : (4294967295 - (un x : Int)) = (un (x ^^^ ones) : Int) := by
  unfold un ones
  have h : x ^^^ 0xffffffff#32 = ~~~x := by
    apply BitVec.eq_of_getLsbD_eq
    intro i hi
    have : ∀ i, i < 32 → (0xffffffff#32).getLsbD i = true := by decide
    rw [BitVec.getLsbD_xor, this i hi, BitVec.getLsbD_not]; simp [hi]
  rw [h, BitVec.toNat_not]
  have := x.isLt
  omega

theorem awake_sum : un (sumP [49, 50, 51, 52, 53, 54, 55, 56, 57]) = 3421780262 := by decide +kernel

set_option maxRecDepth 100000 in
set_option maxHeartbeats 400000 in
theorem goes_any (w : World) : Calls Tryz.prog 4 #[] w fun e w' => e = .returned (.bool true) ∧ Below w.heap.size w w' := by
  have HA := Lib.hid awake_sum
  go_enter Tryz.func4, Tryz.ntmps4
  go_wp2_with fail
  refine (sum_any _ (by unfold maxLen; exact Nat.le_of_ble_eq_true rfl) _).mono ?_
  rintro e w1 ⟨rfl, hb1⟩
  have hs : (un (sumP ((ByteArray.mk #[49, 50, 51, 52, 53, 54, 55, 56, 57]).data.toList)) : Int) = 3421780262 := by
    show ((un (sumP [49, 50, 51, 52, 53, 54, 55, 56, 57]) : Nat) : Int) = _
    rw [HA.out]
    rfl
  have HB := Lib.hid hb1
  clear hb1
  go_wp2
  go_ret
  exact ⟨rfl, HB.out⟩

end Go.Proofs.YtnlolhlbpdmljaaGreatDoor
