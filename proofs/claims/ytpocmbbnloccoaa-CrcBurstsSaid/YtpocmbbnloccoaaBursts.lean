/-
  A burst of at most 32 bits, turned in any text, shows in the sum unless it turned nothing: CrcBursts answers true at every text, place and pattern, and writes nothing that was there.
  Conditions: none.
-/
import Derived.Test.YtpocmbbnloccoaaBytes
namespace Go.Proofs.Ytpocmbbnloccoaa
open Go.ChangeShapes Go.WideShapes Go.ChangeAt Go.RowKit
open Go.ChangeMaps (open_string shut_string)

theorem size5 : (Try.prog.info? 5).map (·.size) = some 1 := by kernel_rfl

/-- Does the burst change the bit j, of its first k bits? -/
def turned (c p k j : Nat) : Bool := decide (p ≤ j) && decide (j < p + k) && c.testBit (j - p)
/-- L is s with the first k bits of the burst turned. -/
structure Turned (s L : List UInt8) (c p k : Nat) : Prop where
  len : L.length = s.length
  bits : ∀ j, j < 8 * s.length → tbit L j = (tbit s j ^^ turned c p k j)
theorem turned_start (s : List UInt8) (c p : Nat) : Turned s s c p 0 := ⟨rfl, fun j _ => by
  have : turned c p 0 j = false := by unfold turned; by_cases h : p ≤ j <;> simp [h]; omega
  rw [this, Bool.xor_false]⟩
theorem turned_keep {s L : List UInt8} {c p k : Nat} (h : Turned s L c p k) (hb : c.testBit k = false ∨ 8 * s.length ≤ p + k) : Turned s L c p (k + 1) := ⟨h.len, fun j hj => by
  rw [h.bits j hj]
  congr 1
  unfold turned
  by_cases e : j = p + k
  · subst e
    rcases hb with hb | hb
    · simp [hb]
    · omega
  · have e2 : decide (j < p + (k + 1)) = decide (j < p + k) := decide_eq_decide.2 (by omega)
    rw [e2]⟩
theorem turned_put {s L : List UInt8} {c p k q : Nat} (h : Turned s L c p k) (hq : q = p + k) (hb : c.testBit k = true) (hl : q < 8 * s.length) {b : UInt8} (hbv : b.toNat = (L.getD (q / 8) 0).toNat ^^^ 2 ^ (q % 8)) : Turned s (L.set (q / 8) b) c p (k + 1) := by
  subst hq
  refine ⟨by rw [List.length_set]; exact h.len, fun j hj => ?_⟩
  have h1 := h.bits j hj
  have hlen := h.len
  have ht : turned c p (k + 1) j = (turned c p k j ^^ decide (j = p + k)) := by
    unfold turned
    by_cases e : j = p + k
    · subst e; simp [hb]
    · have e2 : decide (j < p + (k + 1)) = decide (j < p + k) := decide_eq_decide.2 (by omega)
      rw [e2]; simp [e]
  rw [ht, ← Bool.xor_assoc, ← h1]
  unfold tbit
  by_cases e : (p + k) / 8 = j / 8
  · rw [List.getD_eq_getElem?_getD, List.getElem?_set, if_pos e, if_pos (by omega)]
    simp only [Option.getD_some]
    rw [hbv, Nat.testBit_xor, Nat.testBit_two_pow, e]
    congr 1
    apply decide_eq_decide.2
    omega
  · rw [List.getD_eq_getElem?_getD, List.getElem?_set, if_neg e, ← List.getD_eq_getElem?_getD]
    have e3 : decide (j = p + k) = false := decide_eq_false (by omega)
    rw [e3, Bool.xor_false]
theorem turned_sum {s L : List UInt8} {c p : Nat} (h : Turned s L c p 32) : sumP L = sumP s ↔ L = s := by
  refine sum_burst (p := p) h.len fun j hj hne => ?_
  rw [h.len] at hj
  have := h.bits j hj
  rw [this] at hne
  have ht : turned c p 32 j = true := by
    cases hx : turned c p 32 j with
    | true => rfl
    | false => rw [hx, Bool.xor_false] at hne; exact absurd rfl hne
  unfold turned at ht
  simp at ht
  exact ⟨ht.1.1, ht.1.2⟩

theorem and_one_of (c k : Nat) (hc : c < 4294967296) : bits BinOp.and IntKind.u32 ((c : Int) / 2 ^ k) 1 = if c.testBit k then 1 else 0 := by
  have h0 : ((c : Int) / 2 ^ k) = ((c / 2 ^ k : Nat) : Int) := by simp
  have h1 := u32_and_nat (c / 2 ^ k) 1 (Nat.lt_of_le_of_lt (Nat.div_le_self _ _) hc) (by omega)
  rw [Nat.and_one_is_mod] at h1
  rw [h0]
  have h2 : c.testBit k = decide (c / 2 ^ k % 2 = 1) := Nat.testBit_eq_decide_div_mod_eq ..
  rw [h2]
  rcases Nat.mod_two_eq_zero_or_one (c / 2 ^ k) with h | h
  · rw [h] at h1 ⊢; exact h1
  · rw [h] at h1 ⊢; exact h1

set_option maxRecDepth 100000 in
set_option maxHeartbeats 4000000 in
theorem burst_run (s : ByteArray) (hsl : s.size ≤ 800) (hsp : 0 < s.size) (a : Nat) (ha : a < 65536) (c : BitVec 32) (w : World) :
    Calls Try.prog 4 #[.string s, .int .u16 (a : Int), .int .u32 (un c : Int)] w fun e w' => e = .returned (.bool true) ∧ Below w.heap.size w w' := by
  have HS := Lib.hid (show s.size ≤ maxLen by unfold maxLen; omega)
  have hd : decide ((800 : Int) < (s.size : Int)) = false := decide_eq_false (by omega)
  have hd0 : ((s.size : Int) == 0) = false := by rw [beq_eq_false_iff_ne]; omega
  have hcl := un_lt c
  obtain ⟨p, hp⟩ : ∃ p, p = a % (8 * s.size) := ⟨_, rfl⟩
  have hpl : p < 8 * s.size := by rw [hp]; exact Nat.mod_lt _ (by omega)
  have HP := Lib.hid (show (a : Int) % (8 * (s.size : Int)) = (p : Int) by rw [hp]; simp)
  have HSL := Lib.hid (show s.data.toList.length = s.size by simp)
  clear hp
  go_enter Try.func4, Try.ntmps4
  go_wp2_with fail
  refine (awake_any _).mono ?_
  rintro e w1 ⟨rfl, hb1⟩
  have T0 := Lib.hid (bytes_row w1 5 s)
  have KB := Lib.hid (hb1.trans ((bytes_below w1 5 s).mono hb1.size))
  have KG := Lib.hid hb1.size
  obtain ⟨W0, hW⟩ : ∃ W, W = Lib.bytesWorld w1 5 s := ⟨_, rfl⟩
  rw [← hW] at T0 KB
  have HW := Lib.hid hW
  clear hW hb1
  go_wp2_with (refine l_run rfl (run_bytes (x := .tmp 24) rfl Try.underlying9 Try.underlying27 Try.underlying5 (s := s) rfl _) ?_)
  rw [← HW.out, HP.out]
  go_loopw [9] (fun i wr => ∃ (k : Nat) (L : List UInt8), k ≤ 32 ∧ i = .int .i64 k ∧ Turned s.data.toList L (un c) p k ∧ TRow wr w1.heap.size L ∧ Below w.heap.size w wr) (fun i _ => 32 - (intOf i).toNat)
  case atStart => exact ⟨0, s.data.toList, by omega, rfl, turned_start _ _ _, T0.out, KB.out⟩
  case round =>
    obtain ⟨k, L, hk, rfl, hT, hR, hB⟩ := hrel
    have HT := Lib.hid hT
    have R := Lib.hid hR
    have RB := Lib.hid hB
    clear hT hR hB
    by_cases hlt : k < 32
    · have hband := and_one_of (un c) k hcl
      cases hct : (un c).testBit k with
      | false =>
        rw [hct, if_neg (by simp)] at hband
        have HE := Lib.hid (turned_keep HT.out (.inl hct))
        clear hct
        go_wp2_with fail
        go_roundw
        case rel => exact ⟨k + 1, L, by omega, by go_num, HE.out, R.out, RB.out⟩
        case measure => simp [intOf]; omega
      | true =>
        rw [hct, if_pos rfl] at hband
        by_cases hq : p + k < 8 * s.size
        · obtain ⟨q, hqe⟩ : ∃ q, q = p + k := ⟨_, rfl⟩
          have hqi : (p : Int) + (k : Int) < 8 * (s.size : Int) := by omega
          have HQ := Lib.hid (show (p : Int) + (k : Int) = (q : Int) by omega)
          have HQE := Lib.hid hqe
          have hlenL : L.length = s.size := by rw [HT.out.len, HSL.out]
          have HLL := Lib.hid hlenL
          obtain ⟨b0, hb0⟩ : ∃ b, b = L.getD (q / 8) 0 := ⟨_, rfl⟩
          obtain ⟨b1, hb1⟩ : ∃ b : UInt8, b.toNat = b0.toNat ^^^ 2 ^ (q % 8) := by
            have h1 : b0.toNat ^^^ 2 ^ (q % 8) < 2 ^ 8 := Nat.xor_lt_two_pow b0.toNat_lt (Nat.pow_lt_pow_right (by omega) (by omega))
            exact ⟨UInt8.ofNat (b0.toNat ^^^ 2 ^ (q % 8)), by rw [UInt8.toNat_ofNat']; exact Nat.mod_eq_of_lt h1⟩
          have HE := Lib.hid (turned_put HT.out hqe hct (by rw [HSL.out]; omega) (b := b1) (by rw [hb1, hb0]))
          have HC := Lib.hid (show wr.drew.cell? ⟨w1.heap.size, q / 8, none⟩ = some (.int .u8 ((b0.toNat : Nat) : Int)) by rw [hb0]; exact R.out.drew.cell (q / 8) (by rw [hlenL]; omega))
          have hc2 : wr.drew.cell? ⟨w1.heap.size, q / 8, none⟩ = some (.int .u8 ((b0.toNat : Nat) : Int)) := HC.out
          have hf2 : wr.drew.frozen? ⟨w1.heap.size, q / 8, none⟩ = false := R.out.drew.free (q / 8) (by rw [hlenL]; omega)
          have HX := Lib.hid (show ∀ w : World, (binOp .xor 5 (.int .u8 ((b0.toNat : Nat) : Int)) (.int .u8 ((2 ^ (q % 8) : Nat) : Int))).run Try.prog w = .ok (.int .u8 ((b1.toNat : Nat) : Int)) w from fun w => by
            have h2 : 2 ^ (q % 8) ≤ 128 := Nat.pow_le_pow_right (n := 2) (by omega) (by omega : q % 8 ≤ 7)
            have h3 := u8_xor_nat b0.toNat (2 ^ (q % 8)) b0.toNat_lt (by omega)
            rw [← hb1] at h3
            simp [binOp, go_sem]
            exact_mod_cast h3)
          have HRow := Lib.hid (R.out.drew.set (q / 8) (by rw [hlenL]; omega) b1)
          have hq2 : q < 8 * s.size := by omega
          have hq3 : (q : Int) ≤ 6400 := by omega
          clear hct hb0 hb1 hqe hlenL hc2 hf2
          go_wp2_with fail
          rw [HQ.out]
          refine region_tail 10 (by kernel_rfl) (by kernel_rfl) wr.drew rfl ?_
          simp only [List.take_succ_cons, List.take_zero, List.drop_succ_cons, List.drop_zero]
          refine s_val rfl (BigFrame.run_move (.tmp 7) rfl _) ?_
          simp only [Act.put, List.setIfInBounds_toArray, List.set_cons_succ, List.set_cons_zero]
          refine s_val rfl (BigFrame.run_move (.tmp 10) rfl _) ?_
          simp only [Act.put, List.setIfInBounds_toArray, List.set_cons_succ, List.set_cons_zero]
          refine s_val rfl (run_quo_nat (x := .tmp 52) (y := .const (.int .i64 8)) (a := q) (b := 8) rfl rfl rfl (by omega) (by omega) _) ?_
          simp only [Act.put, List.setIfInBounds_toArray, List.set_cons_succ, List.set_cons_zero]
          refine s_val rfl (run_at_nat (x := .tmp 51) (y := .tmp 53) (g := w1.heap.size) (n := s.size) (c := grownCap w1 s.size 0 5) (i := q / 8) rfl Try.underlying27 size5 rfl rfl (by omega) _) ?_
          simp only [Act.put, List.setIfInBounds_toArray, List.set_cons_succ, List.set_cons_zero]
          refine s_val rfl (run_load_int (x := .tmp 54) (a := ⟨w1.heap.size, q / 8, none⟩) rfl Try.underlying5 rfl HC.out) ?_
          simp only [Act.put, List.setIfInBounds_toArray, List.set_cons_succ, List.set_cons_zero]
          refine s_val rfl (BigFrame.run_move (.tmp 10) rfl _) ?_
          simp only [Act.put, List.setIfInBounds_toArray, List.set_cons_succ, List.set_cons_zero]
          refine s_val rfl (run_rem_nat (x := .tmp 56) (y := .const (.int .i64 8)) (a := q) (b := 8) rfl rfl rfl (by omega) _) ?_
          simp only [Act.put, List.setIfInBounds_toArray, List.set_cons_succ, List.set_cons_zero]
          refine s_val rfl (run_bit8 (x := .const (.int .u8 1)) (y := .tmp 57) (k := q % 8) rfl rfl rfl (by omega) _) ?_
          simp only [Act.put, List.setIfInBounds_toArray, List.set_cons_succ, List.set_cons_zero]
          refine s_val rfl (run_ints_is (x := .tmp 55) (y := .tmp 58) (k := .u8) rfl rfl rfl (HX.out _)) ?_
          simp only [Act.put, List.setIfInBounds_toArray, List.set_cons_succ, List.set_cons_zero]
          refine s_val rfl (run_at_nat (x := .tmp 51) (y := .tmp 53) (g := w1.heap.size) (n := s.size) (c := grownCap w1 s.size 0 5) (i := q / 8) rfl Try.underlying27 size5 rfl rfl (by omega) _) ?_
          simp only [Act.put, List.setIfInBounds_toArray, List.set_cons_succ, List.set_cons_zero]
          refine wpStill_nil ?_
          have hc2 := HC.out
          have hf2 : wr.drew.frozen? ⟨w1.heap.size, q / 8, none⟩ = false := R.out.drew.free (q / 8) (by rw [HLL.out]; omega)
          go_wp2_with fail
          go_roundw
          case rel => exact ⟨k + 1, _, by omega, by go_num, HE.out, HRow.out, RB.out.drew.setCell KG.out _⟩
          case measure => simp [intOf]; omega
        · have HE := Lib.hid (turned_keep HT.out (.inr (by rw [HSL.out]; omega)))
          have hqi : ¬ (p : Int) + (k : Int) < 8 * (s.size : Int) := by omega
          clear hct
          go_wp2_with fail
          go_roundw
          case rel => exact ⟨k + 1, L, by omega, by go_num, HE.out, R.out, RB.out⟩
          case measure => simp [intOf]; omega
    · have hk32 : k = 32 := by omega
      subst hk32
      have HLL := Lib.hid (show L.length = s.size by rw [HT.out.len, HSL.out])
      have HLM := Lib.hid (show (ByteArray.mk L.toArray).size ≤ maxLen by
        have h := HLL.out
        have h2 : (ByteArray.mk L.toArray).size = L.length := by rw [← ByteArray.size_data]; simp
        rw [h2, h]; exact HS.out)
      obtain ⟨r, hr⟩ : ∃ r : Bool, r = decide (L = s.data.toList) := ⟨_, rfl⟩
      have HR1 := Lib.hid (show ((un (sumP (ByteArray.mk L.toArray).data.toList) : Int) == (un (sumP s.data.toList) : Int)) = r by
        rw [un_eq, hr]
        apply decide_eq_decide.2
        simpa using turned_sum HT.out)
      have HR2 := Lib.hid (show decide ((ByteArray.mk L.toArray) = s) = r by
        rw [hr]
        apply decide_eq_decide.2
        constructor
        · intro h; rw [← h]
        · intro h
          apply ByteArray.ext
          simp [h])
      have HR3 := Lib.hid (show (r == r) = true by simp)
      clear hr
      go_wp2_with fail
      refine region_class (fun w' => Below wr.heap.size wr w') (by kernel_rfl) (by kernel_rfl) (Below.refl _ _).drew ?_
      refine q_move_is rfl (.tmp 7) (.slice (some ⟨w1.heap.size, 0, none⟩) s.size (grownCap w1 s.size 0 5)) rfl rfl ?_
      simp only [Act.put, List.setIfInBounds_toArray, List.set_cons_succ, List.set_cons_zero]
      refine q_val rfl (fun w' hw' => run_text (x := .tmp 61) (L := L) rfl Try.underlying27 Try.underlying5 Try.underlying9 (g := w1.heap.size) (cap := grownCap w1 s.size 0 5) (by rw [HLL.out]; rfl) (R.out.later hw' R.out.lt)) ?_
      simp only [Act.put, List.setIfInBounds_toArray, List.set_cons_succ, List.set_cons_zero]
      refine q_call rfl (args := #[.string ⟨L.toArray⟩]) (fun w' hw' => run_call1 (u := .string ⟨L.toArray⟩) rfl Try.call10 rfl w') (fun w' hw' => class_sum (Nat.le_refl _) hw' ⟨L.toArray⟩ HLM.out) ?_
      simp only [Act.put, List.setIfInBounds_toArray, List.set_cons_succ, List.set_cons_zero]
      refine q_move_is rfl (.tmp 0) (.string s) rfl rfl ?_
      simp only [Act.put, List.setIfInBounds_toArray, List.set_cons_succ, List.set_cons_zero]
      refine q_call rfl (args := #[.string s]) (fun w' hw' => run_call1 (u := .string s) rfl Try.call10 rfl w') (fun w' hw' => class_sum (Nat.le_refl _) hw' s HS.out) ?_
      simp only [Act.put, List.setIfInBounds_toArray, List.set_cons_succ, List.set_cons_zero]
      refine q_val rfl (fun w' hw' => (run_eql_int_is (x := .tmp 63) (y := .tmp 65) rfl rfl rfl r HR1.out w')) ?_
      simp only [Act.put, List.setIfInBounds_toArray, List.set_cons_succ, List.set_cons_zero]
      refine q_move_is rfl (.tmp 7) (.slice (some ⟨w1.heap.size, 0, none⟩) s.size (grownCap w1 s.size 0 5)) rfl rfl ?_
      simp only [Act.put, List.setIfInBounds_toArray, List.set_cons_succ, List.set_cons_zero]
      refine q_val rfl (fun w' hw' => run_text (x := .tmp 67) (L := L) rfl Try.underlying27 Try.underlying5 Try.underlying9 (g := w1.heap.size) (cap := grownCap w1 s.size 0 5) (by rw [HLL.out]; rfl) (R.out.later hw' R.out.lt)) ?_
      simp only [Act.put, List.setIfInBounds_toArray, List.set_cons_succ, List.set_cons_zero]
      refine q_move_is rfl (.tmp 0) (.string s) rfl rfl ?_
      simp only [Act.put, List.setIfInBounds_toArray, List.set_cons_succ, List.set_cons_zero]
      refine q_val rfl (fun w' hw' => (run_eql_text_is (x := .tmp 68) (y := .tmp 69) rfl rfl rfl r HR2.out w')) ?_
      simp only [Act.put, List.setIfInBounds_toArray, List.set_cons_succ, List.set_cons_zero]
      refine q_val rfl (fun w' hw' => (run_eql_bool_is (x := .tmp 66) (y := .tmp 70) rfl Try.underlying4 rfl rfl true HR3.out w')) ?_
      simp only [Act.put, List.setIfInBounds_toArray, List.set_cons_succ, List.set_cons_zero]
      refine q_assign_is rfl (.tmp 71) (.bool true) rfl rfl ?_
      simp only [Act.put, List.setIfInBounds_toArray, List.set_cons_succ, List.set_cons_zero]
      refine wpQuiet_nil ?_
      intro w' hw'
      go_wp2
      go_ret
      exact ⟨rfl, RB.out.trans (hw'.mono RB.out.size)⟩

set_option maxRecDepth 100000 in
set_option maxHeartbeats 1000000 in
theorem burst_not (s : ByteArray) (hs : s.size ≤ maxLen) (hb : 800 < s.size ∨ s.size = 0) (a : Nat) (c : BitVec 32) (w : World) :
    Calls Try.prog 4 #[.string s, .int .u16 (a : Int), .int .u32 (un c : Int)] w fun e w' => e = .returned (.bool true) ∧ Below w.heap.size w w' := by
  unfold maxLen at hs
  rcases hb with hl | hl
  · go_enter Try.func4, Try.ntmps4
    go_wp2_with fail
    refine (awake_any _).mono ?_
    rintro e w1 ⟨rfl, hb1⟩
    go_wp2_with fail
    refine (awake_any _).mono ?_
    rintro e w2 ⟨rfl, hb2⟩
    go_wp2
    go_ret
    exact ⟨rfl, hb1.trans (hb2.mono hb1.size)⟩
  · have hd : decide ((800 : Int) < (s.size : Int)) = false := decide_eq_false (by omega)
    have hd0 : ((s.size : Int) == 0) = true := by rw [beq_iff_eq]; omega
    go_enter Try.func4, Try.ntmps4
    go_wp2_with fail
    refine (awake_any _).mono ?_
    rintro e w1 ⟨rfl, hb1⟩
    go_wp2_with fail
    refine (awake_any _).mono ?_
    rintro e w2 ⟨rfl, hb2⟩
    go_wp2
    go_ret
    exact ⟨rfl, hb1.trans (hb2.mono hb1.size)⟩

theorem walk_crcBursts (s : ByteArray) (hs : s.size ≤ maxLen) (a : Nat) (ha : a < 65536) (c : BitVec 32) (w : World) :
    Calls Try.prog 4 #[.string s, .int .u16 (a : Int), .int .u32 (un c : Int)] w fun e w' => e = .returned (.bool true) ∧ Below w.heap.size w w' := by
  by_cases h : 800 < s.size ∨ s.size = 0
  · exact burst_not s hs h a c w
  · exact burst_run s (by omega) (by omega) a ha c w

set_option maxRecDepth 100000 in
theorem crcBursts_lifted (os : Os) (started : os.Started) (H : Type) (enc : TypeId × Value → H) :
    ReturnsInHanded {} Try.checked os 4 .any (Rows.crcBurstsSpec.pre6 enc Try.prog Try.f4 Rows.crcBurstsRow.domain false) (Rows.crcBurstsSpec.post enc Try.prog Try.f4 false true false false) := by
  refine returnsInHanded_of_change (C := Try.checked) own started (by kernel_rfl) Try.func4
    (ChangeSpec.witness6 (enc := enc) (C := Try.checked) false ⟨#[], #[.string ByteArray.empty, .int .u16 0, .int .u32 0], []⟩ 8 (by kernel_rfl) (by kernel_rfl) (by kernel_rfl) (by kernel_rfl)) ?_
  intro W base args ds gs before hval0 hW hcnd hsz
  have hval : ∀ (j : Nat) t v, Try.f4.params[j]? = some t → args[j]? = some v → Value.okWide Try.prog W .any base t v := hval0
  have hW' := hW
  obtain ⟨p, q, hA0, hV, rfl, hfz, hnd⟩ := hW
  have hA : DataW.TrodAll enc Try.prog W 0 (fun _ => true) true Try.f4.params.toList args.toList ds p := hA0
  rw [Try.params4] at hA hval
  obtain ⟨v0, vs0, d0, ds0, p0, q0, hargs, rfl, rfl, h0, r0⟩ := trodAll_cons hA
  obtain ⟨v1, vs1, d1, ds1, p1, q1, rfl, rfl, rfl, h1, r1⟩ := trodAll_cons r0
  obtain ⟨v2, vs2, d2, ds2, p2, q2, rfl, rfl, rfl, h2, r2⟩ := trodAll_cons r1
  obtain ⟨rfl, rfl, rfl⟩ := trodAll_nil r2
  obtain rfl : args = #[v0, v1, v2] := by cases args; simp_all
  obtain ⟨rfl, rfl⟩ := trodVars_none hV
  have k0 := h0
  have lt0 : ∀ x ∈ p0, x.block < W.heap.size := by obtain ⟨m, hm⟩ := k0; exact DataW.trod_lt m _ _ _ hm
  have k1 := h1
  have lt1 : ∀ x ∈ p1, x.block < W.heap.size := by obtain ⟨m, hm⟩ := k1; exact DataW.trod_lt m _ _ _ hm
  have k2 := h2
  have lt2 : ∀ x ∈ p2, x.block < W.heap.size := by obtain ⟨m, hm⟩ := k2; exact DataW.trod_lt m _ _ _ hm
  obtain ⟨s0, rfl, rfl, rfl, ws0⟩ := open_string Try.underlying9 (hval 0 9 v0 rfl rfl) h0
  obtain ⟨a1, rfl, rfl, rfl, wa1⟩ := open_int Try.underlying26 (hval 1 26 v1 rfl rfl) h1
  obtain ⟨x1, hx1, rfl⟩ := of_u16 wa1
  obtain ⟨a2, rfl, rfl, rfl, wa2⟩ := open_int Try.underlying23 (hval 2 23 v2 rfl rfl) h2
  obtain ⟨x2, rfl⟩ := of_u32 wa2
  clear hA0 hval0
  refine (walk_crcBursts s0 ws0 x1 hx1 x2 W).mono fun e W' ⟨he, bel⟩ => ?_
  subst he
  exact ⟨_, rfl, _, _, _, [], _, [], hW', trodAll_mk1 (shut_bool Try.underlying4 _), (trodAll_cons_mk (Below.trod laidOut (by kernel_rfl) (of_decide_eq_true (by kernel_rfl)) k0 bel lt0) (trodAll_cons_mk (Below.trod laidOut (by kernel_rfl) (of_decide_eq_true (by kernel_rfl)) k1 bel lt1) (trodAll_cons_mk (Below.trod laidOut (by kernel_rfl) (of_decide_eq_true (by kernel_rfl)) k2 bel lt2) trodAll_mk0))), rfl, bel.frame _, fun h => by cases h⟩

theorem crcBursts_holds : Rows.CrcBurstsSaid :=
  OpenClaim.holds_of_wide 4 Try.f4 rfl rfl rfl rfl rfl rfl rfl ⟨rfl, rfl, rfl, rfl, rfl⟩ rfl rfl rfl rfl rfl (by kernel_rfl) Try.func4 (by kernel_rfl)
    (of_decide_eq_true (by kernel_rfl)) (by unfold Func.isWrapper; first | (rw [if_pos (by decide +kernel)]; kernel_rfl) | (rw [if_neg (by decide +kernel)]; exact ⟨rfl, rfl⟩))
    (fun os started H enc _ => crcBursts_lifted os started H enc)

#print axioms crcBursts_holds
end Go.Proofs.Ytpocmbbnloccoaa
