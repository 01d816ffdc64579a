/-
  The sum of three texts of one length, put together byte by byte by exclusive or, is the exclusive or of their sums: CrcLine answers true at every three texts, and writes nothing that was there.
  Conditions: none.
-/
import Derived.Test.YtpocmbbnloccoaaBytes
namespace Go.Proofs.Ytpocmbbnloccoaa
open Go.ChangeShapes Go.WideShapes Go.ChangeAt Go.RowKit
open Go.ChangeMaps (open_string shut_string)

theorem size5 : (Try.prog.info? 5).map (·.size) = some 1 := by kernel_rfl

theorem info5 : (Try.prog.info? 5).map (fun i => (i.zero, i.size, i.bytes)) = some (some (.int .u8 0), 1, 1) := by kernel_rfl
section
variable {P : Program} {ρ : Operand → Value} {o : Oper}
/-- A byte of a text. -/
theorem run_index_nat {t : TypeId} {x y : Operand} (ho : o.op = .index t x y) (ht : P.underlying t = some .string) {s : ByteArray} {i : Nat} (hx : ρ x = .string s) (hy : ρ y = .int .i64 (i : Int)) (hi : i < s.size) {b : UInt8} (hb : s.data.toList.getD i 0 = b) (w : World) :
    (execOp ρ o).run P w = .ok (.value (.int .u8 ((b.toNat : Nat) : Int))) w := by
  subst hb
  have h := run_index_string (P := P) w t s .i64 (i : Int) ht
  rw [dif_pos ⟨by omega, by omega⟩] at h
  have h2 : s[(i : Int).toNat]'(by omega) = s.data.toList.getD i 0 := by
    simp only [Int.toNat_natCast]
    rw [List.getD_eq_getElem?_getD, List.getElem?_eq_getElem (by simpa using hi)]
    rfl
  unfold execOp
  rw [ho]
  simp only [hx, hy, Sem.run_bind, h, Result.andThen_ok, Sem.run_pure]
  rw [h2]
theorem run_xor8 {t t' : TypeId} {x y : Operand} (ho : o.op = .binOp .xor t x y t') {a b : UInt8} (hx : ρ x = .int .u8 ((a.toNat : Nat) : Int)) (hy : ρ y = .int .u8 ((b.toNat : Nat) : Int)) {c : UInt8} (hc : a ^^^ b = c) (w : World) :
    (execOp ρ o).run P w = .ok (.value (.int .u8 ((c.toNat : Nat) : Int))) w := by
  subst hc
  refine run_ints_is ho hx hy ?_
  have h3 := u8_xor_nat a.toNat b.toNat a.toNat_lt b.toNat_lt
  rw [UInt8.toNat_xor]
  simp [binOp, go_sem]
  exact_mod_cast h3
end

/-- What the loop puts together, of the first n bytes. -/
def lineL (s t u : ByteArray) (n : Nat) : List UInt8 := List.zipWith (fun x y => x ^^^ y) (List.zipWith (fun x y => x ^^^ y) (s.data.toList.take n) (t.data.toList.take n)) (u.data.toList.take n)
theorem line_length {s t u : ByteArray} {n : Nat} (h1 : n ≤ s.size) (h2 : n ≤ t.size) (h3 : n ≤ u.size) : (lineL s t u n).length = n := by
  unfold lineL; simp; omega
theorem line_get {s t u : ByteArray} {n : Nat} (h1 : n ≤ s.size) (h2 : n ≤ t.size) (h3 : n ≤ u.size) {i : Nat} (hi : i < n) :
    (lineL s t u n).getD i 0 = s.data.toList.getD i 0 ^^^ t.data.toList.getD i 0 ^^^ u.data.toList.getD i 0 := by
  have e1 : i < s.data.toList.length := by simp; omega
  have e2 : i < t.data.toList.length := by simp; omega
  have e3 : i < u.data.toList.length := by simp; omega
  unfold lineL
  simp only [List.getD_eq_getElem?_getD, List.getElem?_zipWith, List.getElem?_take, if_pos hi, List.getElem?_eq_getElem e1, List.getElem?_eq_getElem e2, List.getElem?_eq_getElem e3]
  rfl
/-- The row after k rounds. -/
def lineK (L : List UInt8) (n k : Nat) : List UInt8 := L.take k ++ List.replicate (n - k) 0
theorem lineK_length {L : List UInt8} {n k : Nat} (hL : L.length = n) (hk : k ≤ n) : (lineK L n k).length = n := by
  unfold lineK; simp; omega
theorem lineK_set {L : List UInt8} {n k : Nat} (hL : L.length = n) (hk : k < n) : (lineK L n k).set k (L.getD k 0) = lineK L n (k + 1) := by
  unfold lineK
  have h0 : (L.take k).length = k := by simp; omega
  apply List.ext_getElem?
  intro i
  rw [List.getElem?_set, List.getElem?_append, List.getElem?_append, List.getElem?_take, List.getElem?_take, List.length_take, List.length_take, List.length_append, List.length_take, List.length_replicate, List.getElem?_replicate, List.getElem?_replicate]
  have hm : min k L.length = k := by omega
  have hm1 : min (k + 1) L.length = k + 1 := by omega
  rw [hm, hm1]
  by_cases e : k = i
  · subst e
    rw [if_pos rfl, if_pos (by omega), if_pos (by omega), if_pos (by omega), List.getD_eq_getElem?_getD, List.getElem?_eq_getElem (by omega)]
    rfl
  · rw [if_neg e]
    by_cases h : i < k
    · have h1 : i < k + 1 := by omega
      simp only [h, h1, if_true]
    · have h1 : ¬ i < k + 1 := by omega
      have h2 : i - k < n - k ↔ i - (k + 1) < n - (k + 1) := by omega
      simp only [h, h1, h2, if_false]
theorem lineK_end {L : List UInt8} {n : Nat} (hL : L.length = n) : lineK L n n = L := by
  unfold lineK
  rw [← hL]; simp
theorem row_made {w : World} {B g n cap : Nat} {L : List UInt8} {z : Array Value} (hz : z = #[.int .u8 0]) (hL : L.length = n) (h : w.ownsRow B 5 1 (.slice (some ⟨g, 0, none⟩) n cap) n (madeCells z n).toList) : TRow w g (lineK L n 0) := by
  subst hz
  have hl := lineK_length (k := 0) hL (Nat.zero_le _)
  have hget : ∀ j, j < n → (lineK L n 0).getD j 0 = 0 := fun j hj => by
    unfold lineK; simp [List.getD_eq_getElem?_getD, hj]
  obtain ⟨_, h2⟩ := h
  rcases h2 with ⟨h2, _⟩ | ⟨g', cap', cur, hv, hg, hh, hn, hc, hsz, hcs⟩
  · cases h2
  · cases hv
    have hlt : g < w.heap.size := by
      rcases Nat.lt_or_ge g w.heap.size with h | h
      · exact h
      · rw [Array.getElem?_eq_none h] at hh; cases hh
    refine ⟨fun j hj => ?_, fun j hj => ?_, hlt⟩
    · rw [hl] at hj
      rw [hget j hj]
      have h3 := congrArg (·[j]?) hcs
      simp only [Nat.mul_one, List.getElem?_take, hj, if_true] at h3
      have hce : w.cell? ⟨g, j, none⟩ = cur[j]? := by unfold World.cell?; rw [hh]; rfl
      simp only [Array.getElem?_toList] at h3
      rw [hce, h3]
      simp [madeCells, hj, Nat.mod_one]
    · unfold World.frozen?
      rw [hh]
      simp

set_option maxRecDepth 100000 in
set_option maxHeartbeats 4000000 in
theorem line_u1 (s t u : ByteArray) (h1 : t.size < s.size) (h2 : u.size < t.size) (h8 : u.size ≤ 800) (hms : u.size ≤ s.size) (hmt : u.size ≤ t.size) (hmu : u.size ≤ u.size) (w : World) :
    Calls Try.prog 7 #[.string s, .string t, .string u] w fun e w' => e = .returned (.bool true) ∧ Below w.heap.size w w' := by
  have hd : decide ((800 : Int) < (u.size : Int)) = false := decide_eq_false (by omega)
  have HS1 := Lib.hid hms
  have HT1 := Lib.hid hmt
  have HU1 := Lib.hid hmu
  have HMS := Lib.hid (show (s.extract 0 u.size).size ≤ maxLen by rw [size_hi s _ hms]; unfold maxLen; omega)
  have HMT := Lib.hid (show (t.extract 0 u.size).size ≤ maxLen by rw [size_hi t _ hmt]; unfold maxLen; omega)
  have HMU := Lib.hid (show (u.extract 0 u.size).size ≤ maxLen by rw [size_hi u _ hmu]; unfold maxLen; omega)
  obtain ⟨L, hL⟩ : ∃ L, L = lineL s t u u.size := ⟨_, rfl⟩
  have HLL := Lib.hid (show L.length = u.size by rw [hL, line_length hms hmt hmu])
  have HLM := Lib.hid (show (ByteArray.mk L.toArray).size ≤ maxLen by
    have h := HLL.out
    have h2 : (ByteArray.mk L.toArray).size = L.length := by rw [← ByteArray.size_data]; simp
    rw [h2, h]; unfold maxLen; omega)
  have HG := Lib.hid (show ∀ i, i < u.size → L.getD i 0 = s.data.toList.getD i 0 ^^^ t.data.toList.getD i 0 ^^^ u.data.toList.getD i 0 from fun i hi => by rw [hL]; exact line_get hms hmt hmu hi)
  have HE := Lib.hid (show ((un (sumP (s.extract 0 u.size).data.toList ^^^ sumP (t.extract 0 u.size).data.toList ^^^ sumP (u.extract 0 u.size).data.toList) : Int) == (un (sumP (ByteArray.mk L.toArray).data.toList) : Int)) = true by
    rw [list_hi, list_hi, list_hi, sum_line (by simp; omega) (by simp; omega), text_list, hL]
    simp [lineL])
  obtain ⟨i0, hi0, hz0, hz1, hz2⟩ := info_parts info5
  clear hms hmt hmu hL
  go_enter Try.func7, Try.ntmps7
  go_wp2_with fail
  refine (awake_any _).mono ?_
  rintro e w1 ⟨rfl, hb1⟩
  have KB0 := Lib.hid hb1
  clear hb1
  go_wp2_with (refine wpList_make_full _ rfl (.tmp 24) (.tmp 24) 27 rfl w1.heap.size 5 i0 (.int .u8 0) 1 Try.underlying27 hi0 hz0 hz1 _ _ _ _ u.size rfl rfl rfl rfl (by rw [hz2]; omega) (by unfold maxLen; omega) (Nat.le_refl _) ?_)
  intro w2 hown hgr
  have R0 := Lib.hid (row_made (L := L) rfl HLL.out hown)
  have KB := Lib.hid (KB0.out.trans (((Below.refl w1.heap.size w1).grown hgr (Nat.le_refl _) (fun k hk => by cases hk)).mono KB0.out.size))
  have KG := Lib.hid KB0.out.size
  clear hown hgr
  go_wp2_with fail
  go_loopw [9] (fun i wr => ∃ k : Nat, k ≤ u.size ∧ i = .int .i64 k ∧ TRow wr w1.heap.size (lineK L u.size k) ∧ Below w.heap.size w wr) (fun i _ => u.size - (intOf i).toNat)
  case atStart => exact ⟨0, by omega, rfl, R0.out, KB.out⟩
  case round =>
    obtain ⟨k, hk, rfl, hR, hB⟩ := hrel
    have R := Lib.hid hR
    have RB := Lib.hid hB
    clear hR hB
    by_cases hlt : k < u.size
    · have hks : k < s.size := Nat.lt_of_lt_of_le hlt HS1.out
      have hkt : k < t.size := Nat.lt_of_lt_of_le hlt HT1.out
      have hku : k < u.size := Nat.lt_of_lt_of_le hlt HU1.out
      have HRow := Lib.hid (R.out.drew.set k (by rw [lineK_length HLL.out hk]; exact hlt) (L.getD k 0))
      rw [lineK_set HLL.out hlt] at HRow
      have hgk := HG.out k hlt
      obtain ⟨b4, B4'⟩ : ∃ b, b = L.getD k 0 := ⟨_, rfl⟩
      obtain ⟨b0, B0'⟩ : ∃ b, s.data.toList.getD k 0 = b := ⟨_, rfl⟩
      obtain ⟨b1, B1'⟩ : ∃ b, t.data.toList.getD k 0 = b := ⟨_, rfl⟩
      obtain ⟨b2, B2'⟩ : ∃ b, u.data.toList.getD k 0 = b := ⟨_, rfl⟩
      obtain ⟨b3, B3'⟩ : ∃ b, b0 ^^^ b1 = b := ⟨_, rfl⟩
      rw [← B4'] at HRow hgk
      rw [B0', B1', B2', B3'] at hgk
      have B0 := Lib.hid B0'
      have B1 := Lib.hid B1'
      have B2 := Lib.hid B2'
      have B3 := Lib.hid B3'
      have B4 := Lib.hid hgk.symm
      clear B0' B1' B2' B3' B4' hgk
      have hc2 : ∃ v, wr.drew.cell? ⟨w1.heap.size, k, none⟩ = some v := ⟨_, R.out.drew.cell k (by rw [lineK_length HLL.out hk]; exact hlt)⟩
      obtain ⟨v, hc2⟩ := hc2
      have HC := Lib.hid hc2
      clear hc2
      go_wp2_with fail
      refine region_tail 14 (by kernel_rfl) (by kernel_rfl) wr.drew rfl ?_
      simp only [List.take_succ_cons, List.take_zero, List.drop_succ_cons, List.drop_zero]
      refine s_val rfl (BigFrame.run_move (.tmp 8) rfl _) ?_
      simp only [Act.put, List.setIfInBounds_toArray, List.set_cons_succ, List.set_cons_zero]
      refine s_val rfl (BigFrame.run_move (.tmp 9) rfl _) ?_
      simp only [Act.put, List.setIfInBounds_toArray, List.set_cons_succ, List.set_cons_zero]
      refine s_val rfl (BigFrame.run_move (.tmp 0) rfl _) ?_
      simp only [Act.put, List.setIfInBounds_toArray, List.set_cons_succ, List.set_cons_zero]
      refine s_val rfl (BigFrame.run_move (.tmp 9) rfl _) ?_
      simp only [Act.put, List.setIfInBounds_toArray, List.set_cons_succ, List.set_cons_zero]
      refine s_val rfl (run_index_nat (x := .tmp 33) (y := .tmp 34) (i := k) rfl Try.underlying9 rfl rfl hks B0.out _) ?_
      simp only [Act.put, List.setIfInBounds_toArray, List.set_cons_succ, List.set_cons_zero]
      refine s_val rfl (BigFrame.run_move (.tmp 1) rfl _) ?_
      simp only [Act.put, List.setIfInBounds_toArray, List.set_cons_succ, List.set_cons_zero]
      refine s_val rfl (BigFrame.run_move (.tmp 9) rfl _) ?_
      simp only [Act.put, List.setIfInBounds_toArray, List.set_cons_succ, List.set_cons_zero]
      refine s_val rfl (run_index_nat (x := .tmp 36) (y := .tmp 37) (i := k) rfl Try.underlying9 rfl rfl hkt B1.out _) ?_
      simp only [Act.put, List.setIfInBounds_toArray, List.set_cons_succ, List.set_cons_zero]
      refine s_val rfl (run_xor8 (x := .tmp 35) (y := .tmp 38) rfl rfl rfl B3.out _) ?_
      simp only [Act.put, List.setIfInBounds_toArray, List.set_cons_succ, List.set_cons_zero]
      refine s_val rfl (BigFrame.run_move (.tmp 2) rfl _) ?_
      simp only [Act.put, List.setIfInBounds_toArray, List.set_cons_succ, List.set_cons_zero]
      refine s_val rfl (BigFrame.run_move (.tmp 9) rfl _) ?_
      simp only [Act.put, List.setIfInBounds_toArray, List.set_cons_succ, List.set_cons_zero]
      refine s_val rfl (run_index_nat (x := .tmp 40) (y := .tmp 41) (i := k) rfl Try.underlying9 rfl rfl hku B2.out _) ?_
      simp only [Act.put, List.setIfInBounds_toArray, List.set_cons_succ, List.set_cons_zero]
      refine s_val rfl (run_xor8 (x := .tmp 39) (y := .tmp 42) rfl rfl rfl B4.out _) ?_
      simp only [Act.put, List.setIfInBounds_toArray, List.set_cons_succ, List.set_cons_zero]
      refine s_val rfl (run_at_nat (x := .tmp 31) (y := .tmp 32) (g := w1.heap.size) (n := u.size) (c := u.size) (i := k) rfl Try.underlying27 size5 rfl rfl hlt _) ?_
      simp only [Act.put, List.setIfInBounds_toArray, List.set_cons_succ, List.set_cons_zero]
      refine wpStill_nil ?_
      have hc2 := HC.out
      have hf2 : wr.drew.frozen? ⟨w1.heap.size, k, none⟩ = false := R.out.drew.free k (by rw [lineK_length HLL.out hk]; exact hlt)
      go_wp2_with fail
      go_roundw
      case rel => exact ⟨k + 1, by omega, by go_num, HRow.out, RB.out.drew.setCell KG.out _⟩
      case measure => simp [intOf]; omega
    · have hkn : k = u.size := by omega
      subst hkn
      rw [lineK_end HLL.out] at R
      go_wp2_with fail
      refine region_class (fun w' => Below wr.heap.size wr w') (by kernel_rfl) (by kernel_rfl) (Below.refl _ _).drew ?_
      refine q_move_is rfl (.tmp 0) (.string s) rfl rfl ?_
      simp only [Act.put, List.setIfInBounds_toArray, List.set_cons_succ, List.set_cons_zero]
      refine q_move_is rfl (.tmp 7) (.int .i64 (u.size : Int)) rfl rfl ?_
      simp only [Act.put, List.setIfInBounds_toArray, List.set_cons_succ, List.set_cons_zero]
      refine q_val rfl (fun w' hw' => run_slice_hi (x := .tmp 45) (y := .tmp 46) rfl Try.underlying9 rfl rfl HS1.out w') ?_
      simp only [Act.put, List.setIfInBounds_toArray, List.set_cons_succ, List.set_cons_zero]
      refine q_call rfl (args := #[.string (s.extract 0 u.size)]) (fun w' hw' => run_call1 (u := .string (s.extract 0 u.size)) rfl Try.call10 rfl w') (fun w' hw' => class_sum (Nat.le_refl _) hw' (s.extract 0 u.size) HMS.out) ?_
      simp only [Act.put, List.setIfInBounds_toArray, List.set_cons_succ, List.set_cons_zero]
      refine q_move_is rfl (.tmp 1) (.string t) rfl rfl ?_
      simp only [Act.put, List.setIfInBounds_toArray, List.set_cons_succ, List.set_cons_zero]
      refine q_move_is rfl (.tmp 7) (.int .i64 (u.size : Int)) rfl rfl ?_
      simp only [Act.put, List.setIfInBounds_toArray, List.set_cons_succ, List.set_cons_zero]
      refine q_val rfl (fun w' hw' => run_slice_hi (x := .tmp 49) (y := .tmp 50) rfl Try.underlying9 rfl rfl HT1.out w') ?_
      simp only [Act.put, List.setIfInBounds_toArray, List.set_cons_succ, List.set_cons_zero]
      refine q_call rfl (args := #[.string (t.extract 0 u.size)]) (fun w' hw' => run_call1 (u := .string (t.extract 0 u.size)) rfl Try.call10 rfl w') (fun w' hw' => class_sum (Nat.le_refl _) hw' (t.extract 0 u.size) HMT.out) ?_
      simp only [Act.put, List.setIfInBounds_toArray, List.set_cons_succ, List.set_cons_zero]
      refine q_val rfl (fun w' hw' => run_xor_is (x := .tmp 48) (y := .tmp 52) rfl rfl rfl (un (sumP (s.extract 0 u.size).data.toList ^^^ sumP (t.extract 0 u.size).data.toList) : Int) (xor_un _ _) w') ?_
      simp only [Act.put, List.setIfInBounds_toArray, List.set_cons_succ, List.set_cons_zero]
      refine q_move_is rfl (.tmp 2) (.string u) rfl rfl ?_
      simp only [Act.put, List.setIfInBounds_toArray, List.set_cons_succ, List.set_cons_zero]
      refine q_move_is rfl (.tmp 7) (.int .i64 (u.size : Int)) rfl rfl ?_
      simp only [Act.put, List.setIfInBounds_toArray, List.set_cons_succ, List.set_cons_zero]
      refine q_val rfl (fun w' hw' => run_slice_hi (x := .tmp 54) (y := .tmp 55) rfl Try.underlying9 rfl rfl HU1.out w') ?_
      simp only [Act.put, List.setIfInBounds_toArray, List.set_cons_succ, List.set_cons_zero]
      refine q_call rfl (args := #[.string (u.extract 0 u.size)]) (fun w' hw' => run_call1 (u := .string (u.extract 0 u.size)) rfl Try.call10 rfl w') (fun w' hw' => class_sum (Nat.le_refl _) hw' (u.extract 0 u.size) HMU.out) ?_
      simp only [Act.put, List.setIfInBounds_toArray, List.set_cons_succ, List.set_cons_zero]
      refine q_val rfl (fun w' hw' => run_xor_is (x := .tmp 53) (y := .tmp 57) rfl rfl rfl (un (sumP (s.extract 0 u.size).data.toList ^^^ sumP (t.extract 0 u.size).data.toList ^^^ sumP (u.extract 0 u.size).data.toList) : Int) (xor_un _ _) w') ?_
      simp only [Act.put, List.setIfInBounds_toArray, List.set_cons_succ, List.set_cons_zero]
      refine q_move_is rfl (.tmp 8) (.slice (some ⟨w1.heap.size, 0, none⟩) u.size u.size) rfl rfl ?_
      simp only [Act.put, List.setIfInBounds_toArray, List.set_cons_succ, List.set_cons_zero]
      refine q_val rfl (fun w' hw' => run_text (x := .tmp 59) (L := L) rfl Try.underlying27 Try.underlying5 Try.underlying9 (g := w1.heap.size) (cap := u.size) (by rw [HLL.out]; rfl) (R.out.later hw' R.out.lt)) ?_
      simp only [Act.put, List.setIfInBounds_toArray, List.set_cons_succ, List.set_cons_zero]
      refine q_call rfl (args := #[.string ⟨L.toArray⟩]) (fun w' hw' => run_call1 (u := .string ⟨L.toArray⟩) rfl Try.call10 rfl w') (fun w' hw' => class_sum (Nat.le_refl _) hw' ⟨L.toArray⟩ HLM.out) ?_
      simp only [Act.put, List.setIfInBounds_toArray, List.set_cons_succ, List.set_cons_zero]
      refine q_val rfl (fun w' hw' => (run_eql_int_is (x := .tmp 58) (y := .tmp 61) rfl rfl rfl true HE.out w')) ?_
      simp only [Act.put, List.setIfInBounds_toArray, List.set_cons_succ, List.set_cons_zero]
      refine q_assign_is rfl (.tmp 62) (.bool true) rfl rfl ?_
      simp only [Act.put, List.setIfInBounds_toArray, List.set_cons_succ, List.set_cons_zero]
      refine wpQuiet_nil ?_
      intro w' hw'
      go_wp2
      go_ret
      exact ⟨rfl, RB.out.trans (hw'.mono RB.out.size)⟩

set_option maxRecDepth 100000 in
set_option maxHeartbeats 4000000 in
theorem line_t (s t u : ByteArray) (h1 : t.size < s.size) (h2 : ¬ u.size < t.size) (h8 : t.size ≤ 800) (hms : t.size ≤ s.size) (hmt : t.size ≤ t.size) (hmu : t.size ≤ u.size) (w : World) :
    Calls Try.prog 7 #[.string s, .string t, .string u] w fun e w' => e = .returned (.bool true) ∧ Below w.heap.size w w' := by
  have hd : decide ((800 : Int) < (t.size : Int)) = false := decide_eq_false (by omega)
  have HS1 := Lib.hid hms
  have HT1 := Lib.hid hmt
  have HU1 := Lib.hid hmu
  have HMS := Lib.hid (show (s.extract 0 t.size).size ≤ maxLen by rw [size_hi s _ hms]; unfold maxLen; omega)
  have HMT := Lib.hid (show (t.extract 0 t.size).size ≤ maxLen by rw [size_hi t _ hmt]; unfold maxLen; omega)
  have HMU := Lib.hid (show (u.extract 0 t.size).size ≤ maxLen by rw [size_hi u _ hmu]; unfold maxLen; omega)
  obtain ⟨L, hL⟩ : ∃ L, L = lineL s t u t.size := ⟨_, rfl⟩
  have HLL := Lib.hid (show L.length = t.size by rw [hL, line_length hms hmt hmu])
  have HLM := Lib.hid (show (ByteArray.mk L.toArray).size ≤ maxLen by
    have h := HLL.out
    have h2 : (ByteArray.mk L.toArray).size = L.length := by rw [← ByteArray.size_data]; simp
    rw [h2, h]; unfold maxLen; omega)
  have HG := Lib.hid (show ∀ i, i < t.size → L.getD i 0 = s.data.toList.getD i 0 ^^^ t.data.toList.getD i 0 ^^^ u.data.toList.getD i 0 from fun i hi => by rw [hL]; exact line_get hms hmt hmu hi)
  have HE := Lib.hid (show ((un (sumP (s.extract 0 t.size).data.toList ^^^ sumP (t.extract 0 t.size).data.toList ^^^ sumP (u.extract 0 t.size).data.toList) : Int) == (un (sumP (ByteArray.mk L.toArray).data.toList) : Int)) = true by
    rw [list_hi, list_hi, list_hi, sum_line (by simp; omega) (by simp; omega), text_list, hL]
    simp [lineL])
  obtain ⟨i0, hi0, hz0, hz1, hz2⟩ := info_parts info5
  clear hms hmt hmu hL
  go_enter Try.func7, Try.ntmps7
  go_wp2_with fail
  refine (awake_any _).mono ?_
  rintro e w1 ⟨rfl, hb1⟩
  have KB0 := Lib.hid hb1
  clear hb1
  go_wp2_with (refine wpList_make_full _ rfl (.tmp 24) (.tmp 24) 27 rfl w1.heap.size 5 i0 (.int .u8 0) 1 Try.underlying27 hi0 hz0 hz1 _ _ _ _ t.size rfl rfl rfl rfl (by rw [hz2]; omega) (by unfold maxLen; omega) (Nat.le_refl _) ?_)
  intro w2 hown hgr
  have R0 := Lib.hid (row_made (L := L) rfl HLL.out hown)
  have KB := Lib.hid (KB0.out.trans (((Below.refl w1.heap.size w1).grown hgr (Nat.le_refl _) (fun k hk => by cases hk)).mono KB0.out.size))
  have KG := Lib.hid KB0.out.size
  clear hown hgr
  go_wp2_with fail
  go_loopw [9] (fun i wr => ∃ k : Nat, k ≤ t.size ∧ i = .int .i64 k ∧ TRow wr w1.heap.size (lineK L t.size k) ∧ Below w.heap.size w wr) (fun i _ => t.size - (intOf i).toNat)
  case atStart => exact ⟨0, by omega, rfl, R0.out, KB.out⟩
  case round =>
    obtain ⟨k, hk, rfl, hR, hB⟩ := hrel
    have R := Lib.hid hR
    have RB := Lib.hid hB
    clear hR hB
    by_cases hlt : k < t.size
    · have hks : k < s.size := Nat.lt_of_lt_of_le hlt HS1.out
      have hkt : k < t.size := Nat.lt_of_lt_of_le hlt HT1.out
      have hku : k < u.size := Nat.lt_of_lt_of_le hlt HU1.out
      have HRow := Lib.hid (R.out.drew.set k (by rw [lineK_length HLL.out hk]; exact hlt) (L.getD k 0))
      rw [lineK_set HLL.out hlt] at HRow
      have hgk := HG.out k hlt
      obtain ⟨b4, B4'⟩ : ∃ b, b = L.getD k 0 := ⟨_, rfl⟩
      obtain ⟨b0, B0'⟩ : ∃ b, s.data.toList.getD k 0 = b := ⟨_, rfl⟩
      obtain ⟨b1, B1'⟩ : ∃ b, t.data.toList.getD k 0 = b := ⟨_, rfl⟩
      obtain ⟨b2, B2'⟩ : ∃ b, u.data.toList.getD k 0 = b := ⟨_, rfl⟩
      obtain ⟨b3, B3'⟩ : ∃ b, b0 ^^^ b1 = b := ⟨_, rfl⟩
      rw [← B4'] at HRow hgk
      rw [B0', B1', B2', B3'] at hgk
      have B0 := Lib.hid B0'
      have B1 := Lib.hid B1'
      have B2 := Lib.hid B2'
      have B3 := Lib.hid B3'
      have B4 := Lib.hid hgk.symm
      clear B0' B1' B2' B3' B4' hgk
      have hc2 : ∃ v, wr.drew.cell? ⟨w1.heap.size, k, none⟩ = some v := ⟨_, R.out.drew.cell k (by rw [lineK_length HLL.out hk]; exact hlt)⟩
      obtain ⟨v, hc2⟩ := hc2
      have HC := Lib.hid hc2
      clear hc2
      go_wp2_with fail
      refine region_tail 14 (by kernel_rfl) (by kernel_rfl) wr.drew rfl ?_
      simp only [List.take_succ_cons, List.take_zero, List.drop_succ_cons, List.drop_zero]
      refine s_val rfl (BigFrame.run_move (.tmp 8) rfl _) ?_
      simp only [Act.put, List.setIfInBounds_toArray, List.set_cons_succ, List.set_cons_zero]
      refine s_val rfl (BigFrame.run_move (.tmp 9) rfl _) ?_
      simp only [Act.put, List.setIfInBounds_toArray, List.set_cons_succ, List.set_cons_zero]
      refine s_val rfl (BigFrame.run_move (.tmp 0) rfl _) ?_
      simp only [Act.put, List.setIfInBounds_toArray, List.set_cons_succ, List.set_cons_zero]
      refine s_val rfl (BigFrame.run_move (.tmp 9) rfl _) ?_
      simp only [Act.put, List.setIfInBounds_toArray, List.set_cons_succ, List.set_cons_zero]
      refine s_val rfl (run_index_nat (x := .tmp 33) (y := .tmp 34) (i := k) rfl Try.underlying9 rfl rfl hks B0.out _) ?_
      simp only [Act.put, List.setIfInBounds_toArray, List.set_cons_succ, List.set_cons_zero]
      refine s_val rfl (BigFrame.run_move (.tmp 1) rfl _) ?_
      simp only [Act.put, List.setIfInBounds_toArray, List.set_cons_succ, List.set_cons_zero]
      refine s_val rfl (BigFrame.run_move (.tmp 9) rfl _) ?_
      simp only [Act.put, List.setIfInBounds_toArray, List.set_cons_succ, List.set_cons_zero]
      refine s_val rfl (run_index_nat (x := .tmp 36) (y := .tmp 37) (i := k) rfl Try.underlying9 rfl rfl hkt B1.out _) ?_
      simp only [Act.put, List.setIfInBounds_toArray, List.set_cons_succ, List.set_cons_zero]
      refine s_val rfl (run_xor8 (x := .tmp 35) (y := .tmp 38) rfl rfl rfl B3.out _) ?_
      simp only [Act.put, List.setIfInBounds_toArray, List.set_cons_succ, List.set_cons_zero]
      refine s_val rfl (BigFrame.run_move (.tmp 2) rfl _) ?_
      simp only [Act.put, List.setIfInBounds_toArray, List.set_cons_succ, List.set_cons_zero]
      refine s_val rfl (BigFrame.run_move (.tmp 9) rfl _) ?_
      simp only [Act.put, List.setIfInBounds_toArray, List.set_cons_succ, List.set_cons_zero]
      refine s_val rfl (run_index_nat (x := .tmp 40) (y := .tmp 41) (i := k) rfl Try.underlying9 rfl rfl hku B2.out _) ?_
      simp only [Act.put, List.setIfInBounds_toArray, List.set_cons_succ, List.set_cons_zero]
      refine s_val rfl (run_xor8 (x := .tmp 39) (y := .tmp 42) rfl rfl rfl B4.out _) ?_
      simp only [Act.put, List.setIfInBounds_toArray, List.set_cons_succ, List.set_cons_zero]
      refine s_val rfl (run_at_nat (x := .tmp 31) (y := .tmp 32) (g := w1.heap.size) (n := t.size) (c := t.size) (i := k) rfl Try.underlying27 size5 rfl rfl hlt _) ?_
      simp only [Act.put, List.setIfInBounds_toArray, List.set_cons_succ, List.set_cons_zero]
      refine wpStill_nil ?_
      have hc2 := HC.out
      have hf2 : wr.drew.frozen? ⟨w1.heap.size, k, none⟩ = false := R.out.drew.free k (by rw [lineK_length HLL.out hk]; exact hlt)
      go_wp2_with fail
      go_roundw
      case rel => exact ⟨k + 1, by omega, by go_num, HRow.out, RB.out.drew.setCell KG.out _⟩
      case measure => simp [intOf]; omega
    · have hkn : k = t.size := by omega
      subst hkn
      rw [lineK_end HLL.out] at R
      go_wp2_with fail
      refine region_class (fun w' => Below wr.heap.size wr w') (by kernel_rfl) (by kernel_rfl) (Below.refl _ _).drew ?_
      refine q_move_is rfl (.tmp 0) (.string s) rfl rfl ?_
      simp only [Act.put, List.setIfInBounds_toArray, List.set_cons_succ, List.set_cons_zero]
      refine q_move_is rfl (.tmp 7) (.int .i64 (t.size : Int)) rfl rfl ?_
      simp only [Act.put, List.setIfInBounds_toArray, List.set_cons_succ, List.set_cons_zero]
      refine q_val rfl (fun w' hw' => run_slice_hi (x := .tmp 45) (y := .tmp 46) rfl Try.underlying9 rfl rfl HS1.out w') ?_
      simp only [Act.put, List.setIfInBounds_toArray, List.set_cons_succ, List.set_cons_zero]
      refine q_call rfl (args := #[.string (s.extract 0 t.size)]) (fun w' hw' => run_call1 (u := .string (s.extract 0 t.size)) rfl Try.call10 rfl w') (fun w' hw' => class_sum (Nat.le_refl _) hw' (s.extract 0 t.size) HMS.out) ?_
      simp only [Act.put, List.setIfInBounds_toArray, List.set_cons_succ, List.set_cons_zero]
      refine q_move_is rfl (.tmp 1) (.string t) rfl rfl ?_
      simp only [Act.put, List.setIfInBounds_toArray, List.set_cons_succ, List.set_cons_zero]
      refine q_move_is rfl (.tmp 7) (.int .i64 (t.size : Int)) rfl rfl ?_
      simp only [Act.put, List.setIfInBounds_toArray, List.set_cons_succ, List.set_cons_zero]
      refine q_val rfl (fun w' hw' => run_slice_hi (x := .tmp 49) (y := .tmp 50) rfl Try.underlying9 rfl rfl HT1.out w') ?_
      simp only [Act.put, List.setIfInBounds_toArray, List.set_cons_succ, List.set_cons_zero]
      refine q_call rfl (args := #[.string (t.extract 0 t.size)]) (fun w' hw' => run_call1 (u := .string (t.extract 0 t.size)) rfl Try.call10 rfl w') (fun w' hw' => class_sum (Nat.le_refl _) hw' (t.extract 0 t.size) HMT.out) ?_
      simp only [Act.put, List.setIfInBounds_toArray, List.set_cons_succ, List.set_cons_zero]
      refine q_val rfl (fun w' hw' => run_xor_is (x := .tmp 48) (y := .tmp 52) rfl rfl rfl (un (sumP (s.extract 0 t.size).data.toList ^^^ sumP (t.extract 0 t.size).data.toList) : Int) (xor_un _ _) w') ?_
      simp only [Act.put, List.setIfInBounds_toArray, List.set_cons_succ, List.set_cons_zero]
      refine q_move_is rfl (.tmp 2) (.string u) rfl rfl ?_
      simp only [Act.put, List.setIfInBounds_toArray, List.set_cons_succ, List.set_cons_zero]
      refine q_move_is rfl (.tmp 7) (.int .i64 (t.size : Int)) rfl rfl ?_
      simp only [Act.put, List.setIfInBounds_toArray, List.set_cons_succ, List.set_cons_zero]
      refine q_val rfl (fun w' hw' => run_slice_hi (x := .tmp 54) (y := .tmp 55) rfl Try.underlying9 rfl rfl HU1.out w') ?_
      simp only [Act.put, List.setIfInBounds_toArray, List.set_cons_succ, List.set_cons_zero]
      refine q_call rfl (args := #[.string (u.extract 0 t.size)]) (fun w' hw' => run_call1 (u := .string (u.extract 0 t.size)) rfl Try.call10 rfl w') (fun w' hw' => class_sum (Nat.le_refl _) hw' (u.extract 0 t.size) HMU.out) ?_
      simp only [Act.put, List.setIfInBounds_toArray, List.set_cons_succ, List.set_cons_zero]
      refine q_val rfl (fun w' hw' => run_xor_is (x := .tmp 53) (y := .tmp 57) rfl rfl rfl (un (sumP (s.extract 0 t.size).data.toList ^^^ sumP (t.extract 0 t.size).data.toList ^^^ sumP (u.extract 0 t.size).data.toList) : Int) (xor_un _ _) w') ?_
      simp only [Act.put, List.setIfInBounds_toArray, List.set_cons_succ, List.set_cons_zero]
      refine q_move_is rfl (.tmp 8) (.slice (some ⟨w1.heap.size, 0, none⟩) t.size t.size) rfl rfl ?_
      simp only [Act.put, List.setIfInBounds_toArray, List.set_cons_succ, List.set_cons_zero]
      refine q_val rfl (fun w' hw' => run_text (x := .tmp 59) (L := L) rfl Try.underlying27 Try.underlying5 Try.underlying9 (g := w1.heap.size) (cap := t.size) (by rw [HLL.out]; rfl) (R.out.later hw' R.out.lt)) ?_
      simp only [Act.put, List.setIfInBounds_toArray, List.set_cons_succ, List.set_cons_zero]
      refine q_call rfl (args := #[.string ⟨L.toArray⟩]) (fun w' hw' => run_call1 (u := .string ⟨L.toArray⟩) rfl Try.call10 rfl w') (fun w' hw' => class_sum (Nat.le_refl _) hw' ⟨L.toArray⟩ HLM.out) ?_
      simp only [Act.put, List.setIfInBounds_toArray, List.set_cons_succ, List.set_cons_zero]
      refine q_val rfl (fun w' hw' => (run_eql_int_is (x := .tmp 58) (y := .tmp 61) rfl rfl rfl true HE.out w')) ?_
      simp only [Act.put, List.setIfInBounds_toArray, List.set_cons_succ, List.set_cons_zero]
      refine q_assign_is rfl (.tmp 62) (.bool true) rfl rfl ?_
      simp only [Act.put, List.setIfInBounds_toArray, List.set_cons_succ, List.set_cons_zero]
      refine wpQuiet_nil ?_
      intro w' hw'
      go_wp2
      go_ret
      exact ⟨rfl, RB.out.trans (hw'.mono RB.out.size)⟩

set_option maxRecDepth 100000 in
set_option maxHeartbeats 4000000 in
theorem line_u2 (s t u : ByteArray) (h1 : ¬ t.size < s.size) (h2 : u.size < s.size) (h8 : u.size ≤ 800) (hms : u.size ≤ s.size) (hmt : u.size ≤ t.size) (hmu : u.size ≤ u.size) (w : World) :
    Calls Try.prog 7 #[.string s, .string t, .string u] w fun e w' => e = .returned (.bool true) ∧ Below w.heap.size w w' := by
  have hd : decide ((800 : Int) < (u.size : Int)) = false := decide_eq_false (by omega)
  have HS1 := Lib.hid hms
  have HT1 := Lib.hid hmt
  have HU1 := Lib.hid hmu
  have HMS := Lib.hid (show (s.extract 0 u.size).size ≤ maxLen by rw [size_hi s _ hms]; unfold maxLen; omega)
  have HMT := Lib.hid (show (t.extract 0 u.size).size ≤ maxLen by rw [size_hi t _ hmt]; unfold maxLen; omega)
  have HMU := Lib.hid (show (u.extract 0 u.size).size ≤ maxLen by rw [size_hi u _ hmu]; unfold maxLen; omega)
  obtain ⟨L, hL⟩ : ∃ L, L = lineL s t u u.size := ⟨_, rfl⟩
  have HLL := Lib.hid (show L.length = u.size by rw [hL, line_length hms hmt hmu])
  have HLM := Lib.hid (show (ByteArray.mk L.toArray).size ≤ maxLen by
    have h := HLL.out
    have h2 : (ByteArray.mk L.toArray).size = L.length := by rw [← ByteArray.size_data]; simp
    rw [h2, h]; unfold maxLen; omega)
  have HG := Lib.hid (show ∀ i, i < u.size → L.getD i 0 = s.data.toList.getD i 0 ^^^ t.data.toList.getD i 0 ^^^ u.data.toList.getD i 0 from fun i hi => by rw [hL]; exact line_get hms hmt hmu hi)
  have HE := Lib.hid (show ((un (sumP (s.extract 0 u.size).data.toList ^^^ sumP (t.extract 0 u.size).data.toList ^^^ sumP (u.extract 0 u.size).data.toList) : Int) == (un (sumP (ByteArray.mk L.toArray).data.toList) : Int)) = true by
    rw [list_hi, list_hi, list_hi, sum_line (by simp; omega) (by simp; omega), text_list, hL]
    simp [lineL])
  obtain ⟨i0, hi0, hz0, hz1, hz2⟩ := info_parts info5
  clear hms hmt hmu hL
  go_enter Try.func7, Try.ntmps7
  go_wp2_with fail
  refine (awake_any _).mono ?_
  rintro e w1 ⟨rfl, hb1⟩
  have KB0 := Lib.hid hb1
  clear hb1
  go_wp2_with (refine wpList_make_full _ rfl (.tmp 24) (.tmp 24) 27 rfl w1.heap.size 5 i0 (.int .u8 0) 1 Try.underlying27 hi0 hz0 hz1 _ _ _ _ u.size rfl rfl rfl rfl (by rw [hz2]; omega) (by unfold maxLen; omega) (Nat.le_refl _) ?_)
  intro w2 hown hgr
  have R0 := Lib.hid (row_made (L := L) rfl HLL.out hown)
  have KB := Lib.hid (KB0.out.trans (((Below.refl w1.heap.size w1).grown hgr (Nat.le_refl _) (fun k hk => by cases hk)).mono KB0.out.size))
  have KG := Lib.hid KB0.out.size
  clear hown hgr
  go_wp2_with fail
  go_loopw [9] (fun i wr => ∃ k : Nat, k ≤ u.size ∧ i = .int .i64 k ∧ TRow wr w1.heap.size (lineK L u.size k) ∧ Below w.heap.size w wr) (fun i _ => u.size - (intOf i).toNat)
  case atStart => exact ⟨0, by omega, rfl, R0.out, KB.out⟩
  case round =>
    obtain ⟨k, hk, rfl, hR, hB⟩ := hrel
    have R := Lib.hid hR
    have RB := Lib.hid hB
    clear hR hB
    by_cases hlt : k < u.size
    · have hks : k < s.size := Nat.lt_of_lt_of_le hlt HS1.out
      have hkt : k < t.size := Nat.lt_of_lt_of_le hlt HT1.out
      have hku : k < u.size := Nat.lt_of_lt_of_le hlt HU1.out
      have HRow := Lib.hid (R.out.drew.set k (by rw [lineK_length HLL.out hk]; exact hlt) (L.getD k 0))
      rw [lineK_set HLL.out hlt] at HRow
      have hgk := HG.out k hlt
      obtain ⟨b4, B4'⟩ : ∃ b, b = L.getD k 0 := ⟨_, rfl⟩
      obtain ⟨b0, B0'⟩ : ∃ b, s.data.toList.getD k 0 = b := ⟨_, rfl⟩
      obtain ⟨b1, B1'⟩ : ∃ b, t.data.toList.getD k 0 = b := ⟨_, rfl⟩
      obtain ⟨b2, B2'⟩ : ∃ b, u.data.toList.getD k 0 = b := ⟨_, rfl⟩
      obtain ⟨b3, B3'⟩ : ∃ b, b0 ^^^ b1 = b := ⟨_, rfl⟩
      rw [← B4'] at HRow hgk
      rw [B0', B1', B2', B3'] at hgk
      have B0 := Lib.hid B0'
      have B1 := Lib.hid B1'
      have B2 := Lib.hid B2'
      have B3 := Lib.hid B3'
      have B4 := Lib.hid hgk.symm
      clear B0' B1' B2' B3' B4' hgk
      have hc2 : ∃ v, wr.drew.cell? ⟨w1.heap.size, k, none⟩ = some v := ⟨_, R.out.drew.cell k (by rw [lineK_length HLL.out hk]; exact hlt)⟩
      obtain ⟨v, hc2⟩ := hc2
      have HC := Lib.hid hc2
      clear hc2
      go_wp2_with fail
      refine region_tail 14 (by kernel_rfl) (by kernel_rfl) wr.drew rfl ?_
      simp only [List.take_succ_cons, List.take_zero, List.drop_succ_cons, List.drop_zero]
      refine s_val rfl (BigFrame.run_move (.tmp 8) rfl _) ?_
      simp only [Act.put, List.setIfInBounds_toArray, List.set_cons_succ, List.set_cons_zero]
      refine s_val rfl (BigFrame.run_move (.tmp 9) rfl _) ?_
      simp only [Act.put, List.setIfInBounds_toArray, List.set_cons_succ, List.set_cons_zero]
      refine s_val rfl (BigFrame.run_move (.tmp 0) rfl _) ?_
      simp only [Act.put, List.setIfInBounds_toArray, List.set_cons_succ, List.set_cons_zero]
      refine s_val rfl (BigFrame.run_move (.tmp 9) rfl _) ?_
      simp only [Act.put, List.setIfInBounds_toArray, List.set_cons_succ, List.set_cons_zero]
      refine s_val rfl (run_index_nat (x := .tmp 33) (y := .tmp 34) (i := k) rfl Try.underlying9 rfl rfl hks B0.out _) ?_
      simp only [Act.put, List.setIfInBounds_toArray, List.set_cons_succ, List.set_cons_zero]
      refine s_val rfl (BigFrame.run_move (.tmp 1) rfl _) ?_
      simp only [Act.put, List.setIfInBounds_toArray, List.set_cons_succ, List.set_cons_zero]
      refine s_val rfl (BigFrame.run_move (.tmp 9) rfl _) ?_
      simp only [Act.put, List.setIfInBounds_toArray, List.set_cons_succ, List.set_cons_zero]
      refine s_val rfl (run_index_nat (x := .tmp 36) (y := .tmp 37) (i := k) rfl Try.underlying9 rfl rfl hkt B1.out _) ?_
      simp only [Act.put, List.setIfInBounds_toArray, List.set_cons_succ, List.set_cons_zero]
      refine s_val rfl (run_xor8 (x := .tmp 35) (y := .tmp 38) rfl rfl rfl B3.out _) ?_
      simp only [Act.put, List.setIfInBounds_toArray, List.set_cons_succ, List.set_cons_zero]
      refine s_val rfl (BigFrame.run_move (.tmp 2) rfl _) ?_
      simp only [Act.put, List.setIfInBounds_toArray, List.set_cons_succ, List.set_cons_zero]
      refine s_val rfl (BigFrame.run_move (.tmp 9) rfl _) ?_
      simp only [Act.put, List.setIfInBounds_toArray, List.set_cons_succ, List.set_cons_zero]
      refine s_val rfl (run_index_nat (x := .tmp 40) (y := .tmp 41) (i := k) rfl Try.underlying9 rfl rfl hku B2.out _) ?_
      simp only [Act.put, List.setIfInBounds_toArray, List.set_cons_succ, List.set_cons_zero]
      refine s_val rfl (run_xor8 (x := .tmp 39) (y := .tmp 42) rfl rfl rfl B4.out _) ?_
      simp only [Act.put, List.setIfInBounds_toArray, List.set_cons_succ, List.set_cons_zero]
      refine s_val rfl (run_at_nat (x := .tmp 31) (y := .tmp 32) (g := w1.heap.size) (n := u.size) (c := u.size) (i := k) rfl Try.underlying27 size5 rfl rfl hlt _) ?_
      simp only [Act.put, List.setIfInBounds_toArray, List.set_cons_succ, List.set_cons_zero]
      refine wpStill_nil ?_
      have hc2 := HC.out
      have hf2 : wr.drew.frozen? ⟨w1.heap.size, k, none⟩ = false := R.out.drew.free k (by rw [lineK_length HLL.out hk]; exact hlt)
      go_wp2_with fail
      go_roundw
      case rel => exact ⟨k + 1, by omega, by go_num, HRow.out, RB.out.drew.setCell KG.out _⟩
      case measure => simp [intOf]; omega
    · have hkn : k = u.size := by omega
      subst hkn
      rw [lineK_end HLL.out] at R
      go_wp2_with fail
      refine region_class (fun w' => Below wr.heap.size wr w') (by kernel_rfl) (by kernel_rfl) (Below.refl _ _).drew ?_
      refine q_move_is rfl (.tmp 0) (.string s) rfl rfl ?_
      simp only [Act.put, List.setIfInBounds_toArray, List.set_cons_succ, List.set_cons_zero]
      refine q_move_is rfl (.tmp 7) (.int .i64 (u.size : Int)) rfl rfl ?_
      simp only [Act.put, List.setIfInBounds_toArray, List.set_cons_succ, List.set_cons_zero]
      refine q_val rfl (fun w' hw' => run_slice_hi (x := .tmp 45) (y := .tmp 46) rfl Try.underlying9 rfl rfl HS1.out w') ?_
      simp only [Act.put, List.setIfInBounds_toArray, List.set_cons_succ, List.set_cons_zero]
      refine q_call rfl (args := #[.string (s.extract 0 u.size)]) (fun w' hw' => run_call1 (u := .string (s.extract 0 u.size)) rfl Try.call10 rfl w') (fun w' hw' => class_sum (Nat.le_refl _) hw' (s.extract 0 u.size) HMS.out) ?_
      simp only [Act.put, List.setIfInBounds_toArray, List.set_cons_succ, List.set_cons_zero]
      refine q_move_is rfl (.tmp 1) (.string t) rfl rfl ?_
      simp only [Act.put, List.setIfInBounds_toArray, List.set_cons_succ, List.set_cons_zero]
      refine q_move_is rfl (.tmp 7) (.int .i64 (u.size : Int)) rfl rfl ?_
      simp only [Act.put, List.setIfInBounds_toArray, List.set_cons_succ, List.set_cons_zero]
      refine q_val rfl (fun w' hw' => run_slice_hi (x := .tmp 49) (y := .tmp 50) rfl Try.underlying9 rfl rfl HT1.out w') ?_
      simp only [Act.put, List.setIfInBounds_toArray, List.set_cons_succ, List.set_cons_zero]
      refine q_call rfl (args := #[.string (t.extract 0 u.size)]) (fun w' hw' => run_call1 (u := .string (t.extract 0 u.size)) rfl Try.call10 rfl w') (fun w' hw' => class_sum (Nat.le_refl _) hw' (t.extract 0 u.size) HMT.out) ?_
      simp only [Act.put, List.setIfInBounds_toArray, List.set_cons_succ, List.set_cons_zero]
      refine q_val rfl (fun w' hw' => run_xor_is (x := .tmp 48) (y := .tmp 52) rfl rfl rfl (un (sumP (s.extract 0 u.size).data.toList ^^^ sumP (t.extract 0 u.size).data.toList) : Int) (xor_un _ _) w') ?_
      simp only [Act.put, List.setIfInBounds_toArray, List.set_cons_succ, List.set_cons_zero]
      refine q_move_is rfl (.tmp 2) (.string u) rfl rfl ?_
      simp only [Act.put, List.setIfInBounds_toArray, List.set_cons_succ, List.set_cons_zero]
      refine q_move_is rfl (.tmp 7) (.int .i64 (u.size : Int)) rfl rfl ?_
      simp only [Act.put, List.setIfInBounds_toArray, List.set_cons_succ, List.set_cons_zero]
      refine q_val rfl (fun w' hw' => run_slice_hi (x := .tmp 54) (y := .tmp 55) rfl Try.underlying9 rfl rfl HU1.out w') ?_
      simp only [Act.put, List.setIfInBounds_toArray, List.set_cons_succ, List.set_cons_zero]
      refine q_call rfl (args := #[.string (u.extract 0 u.size)]) (fun w' hw' => run_call1 (u := .string (u.extract 0 u.size)) rfl Try.call10 rfl w') (fun w' hw' => class_sum (Nat.le_refl _) hw' (u.extract 0 u.size) HMU.out) ?_
      simp only [Act.put, List.setIfInBounds_toArray, List.set_cons_succ, List.set_cons_zero]
      refine q_val rfl (fun w' hw' => run_xor_is (x := .tmp 53) (y := .tmp 57) rfl rfl rfl (un (sumP (s.extract 0 u.size).data.toList ^^^ sumP (t.extract 0 u.size).data.toList ^^^ sumP (u.extract 0 u.size).data.toList) : Int) (xor_un _ _) w') ?_
      simp only [Act.put, List.setIfInBounds_toArray, List.set_cons_succ, List.set_cons_zero]
      refine q_move_is rfl (.tmp 8) (.slice (some ⟨w1.heap.size, 0, none⟩) u.size u.size) rfl rfl ?_
      simp only [Act.put, List.setIfInBounds_toArray, List.set_cons_succ, List.set_cons_zero]
      refine q_val rfl (fun w' hw' => run_text (x := .tmp 59) (L := L) rfl Try.underlying27 Try.underlying5 Try.underlying9 (g := w1.heap.size) (cap := u.size) (by rw [HLL.out]; rfl) (R.out.later hw' R.out.lt)) ?_
      simp only [Act.put, List.setIfInBounds_toArray, List.set_cons_succ, List.set_cons_zero]
      refine q_call rfl (args := #[.string ⟨L.toArray⟩]) (fun w' hw' => run_call1 (u := .string ⟨L.toArray⟩) rfl Try.call10 rfl w') (fun w' hw' => class_sum (Nat.le_refl _) hw' ⟨L.toArray⟩ HLM.out) ?_
      simp only [Act.put, List.setIfInBounds_toArray, List.set_cons_succ, List.set_cons_zero]
      refine q_val rfl (fun w' hw' => (run_eql_int_is (x := .tmp 58) (y := .tmp 61) rfl rfl rfl true HE.out w')) ?_
      simp only [Act.put, List.setIfInBounds_toArray, List.set_cons_succ, List.set_cons_zero]
      refine q_assign_is rfl (.tmp 62) (.bool true) rfl rfl ?_
      simp only [Act.put, List.setIfInBounds_toArray, List.set_cons_succ, List.set_cons_zero]
      refine wpQuiet_nil ?_
      intro w' hw'
      go_wp2
      go_ret
      exact ⟨rfl, RB.out.trans (hw'.mono RB.out.size)⟩

set_option maxRecDepth 100000 in
set_option maxHeartbeats 4000000 in
theorem line_s (s t u : ByteArray) (h1 : ¬ t.size < s.size) (h2 : ¬ u.size < s.size) (h8 : s.size ≤ 800) (hms : s.size ≤ s.size) (hmt : s.size ≤ t.size) (hmu : s.size ≤ u.size) (w : World) :
    Calls Try.prog 7 #[.string s, .string t, .string u] w fun e w' => e = .returned (.bool true) ∧ Below w.heap.size w w' := by
  have hd : decide ((800 : Int) < (s.size : Int)) = false := decide_eq_false (by omega)
  have HS1 := Lib.hid hms
  have HT1 := Lib.hid hmt
  have HU1 := Lib.hid hmu
  have HMS := Lib.hid (show (s.extract 0 s.size).size ≤ maxLen by rw [size_hi s _ hms]; unfold maxLen; omega)
  have HMT := Lib.hid (show (t.extract 0 s.size).size ≤ maxLen by rw [size_hi t _ hmt]; unfold maxLen; omega)
  have HMU := Lib.hid (show (u.extract 0 s.size).size ≤ maxLen by rw [size_hi u _ hmu]; unfold maxLen; omega)
  obtain ⟨L, hL⟩ : ∃ L, L = lineL s t u s.size := ⟨_, rfl⟩
  have HLL := Lib.hid (show L.length = s.size by rw [hL, line_length hms hmt hmu])
  have HLM := Lib.hid (show (ByteArray.mk L.toArray).size ≤ maxLen by
    have h := HLL.out
    have h2 : (ByteArray.mk L.toArray).size = L.length := by rw [← ByteArray.size_data]; simp
    rw [h2, h]; unfold maxLen; omega)
  have HG := Lib.hid (show ∀ i, i < s.size → L.getD i 0 = s.data.toList.getD i 0 ^^^ t.data.toList.getD i 0 ^^^ u.data.toList.getD i 0 from fun i hi => by rw [hL]; exact line_get hms hmt hmu hi)
  have HE := Lib.hid (show ((un (sumP (s.extract 0 s.size).data.toList ^^^ sumP (t.extract 0 s.size).data.toList ^^^ sumP (u.extract 0 s.size).data.toList) : Int) == (un (sumP (ByteArray.mk L.toArray).data.toList) : Int)) = true by
    rw [list_hi, list_hi, list_hi, sum_line (by simp; omega) (by simp; omega), text_list, hL]
    simp [lineL])
  obtain ⟨i0, hi0, hz0, hz1, hz2⟩ := info_parts info5
  clear hms hmt hmu hL
  go_enter Try.func7, Try.ntmps7
  go_wp2_with fail
  refine (awake_any _).mono ?_
  rintro e w1 ⟨rfl, hb1⟩
  have KB0 := Lib.hid hb1
  clear hb1
  go_wp2_with (refine wpList_make_full _ rfl (.tmp 24) (.tmp 24) 27 rfl w1.heap.size 5 i0 (.int .u8 0) 1 Try.underlying27 hi0 hz0 hz1 _ _ _ _ s.size rfl rfl rfl rfl (by rw [hz2]; omega) (by unfold maxLen; omega) (Nat.le_refl _) ?_)
  intro w2 hown hgr
  have R0 := Lib.hid (row_made (L := L) rfl HLL.out hown)
  have KB := Lib.hid (KB0.out.trans (((Below.refl w1.heap.size w1).grown hgr (Nat.le_refl _) (fun k hk => by cases hk)).mono KB0.out.size))
  have KG := Lib.hid KB0.out.size
  clear hown hgr
  go_wp2_with fail
  go_loopw [9] (fun i wr => ∃ k : Nat, k ≤ s.size ∧ i = .int .i64 k ∧ TRow wr w1.heap.size (lineK L s.size k) ∧ Below w.heap.size w wr) (fun i _ => s.size - (intOf i).toNat)
  case atStart => exact ⟨0, by omega, rfl, R0.out, KB.out⟩
  case round =>
    obtain ⟨k, hk, rfl, hR, hB⟩ := hrel
    have R := Lib.hid hR
    have RB := Lib.hid hB
    clear hR hB
    by_cases hlt : k < s.size
    · have hks : k < s.size := Nat.lt_of_lt_of_le hlt HS1.out
      have hkt : k < t.size := Nat.lt_of_lt_of_le hlt HT1.out
      have hku : k < u.size := Nat.lt_of_lt_of_le hlt HU1.out
      have HRow := Lib.hid (R.out.drew.set k (by rw [lineK_length HLL.out hk]; exact hlt) (L.getD k 0))
      rw [lineK_set HLL.out hlt] at HRow
      have hgk := HG.out k hlt
      obtain ⟨b4, B4'⟩ : ∃ b, b = L.getD k 0 := ⟨_, rfl⟩
      obtain ⟨b0, B0'⟩ : ∃ b, s.data.toList.getD k 0 = b := ⟨_, rfl⟩
      obtain ⟨b1, B1'⟩ : ∃ b, t.data.toList.getD k 0 = b := ⟨_, rfl⟩
      obtain ⟨b2, B2'⟩ : ∃ b, u.data.toList.getD k 0 = b := ⟨_, rfl⟩
      obtain ⟨b3, B3'⟩ : ∃ b, b0 ^^^ b1 = b := ⟨_, rfl⟩
      rw [← B4'] at HRow hgk
      rw [B0', B1', B2', B3'] at hgk
      have B0 := Lib.hid B0'
      have B1 := Lib.hid B1'
      have B2 := Lib.hid B2'
      have B3 := Lib.hid B3'
      have B4 := Lib.hid hgk.symm
      clear B0' B1' B2' B3' B4' hgk
      have hc2 : ∃ v, wr.drew.cell? ⟨w1.heap.size, k, none⟩ = some v := ⟨_, R.out.drew.cell k (by rw [lineK_length HLL.out hk]; exact hlt)⟩
      obtain ⟨v, hc2⟩ := hc2
      have HC := Lib.hid hc2
      clear hc2
      go_wp2_with fail
      refine region_tail 14 (by kernel_rfl) (by kernel_rfl) wr.drew rfl ?_
      simp only [List.take_succ_cons, List.take_zero, List.drop_succ_cons, List.drop_zero]
      refine s_val rfl (BigFrame.run_move (.tmp 8) rfl _) ?_
      simp only [Act.put, List.setIfInBounds_toArray, List.set_cons_succ, List.set_cons_zero]
      refine s_val rfl (BigFrame.run_move (.tmp 9) rfl _) ?_
      simp only [Act.put, List.setIfInBounds_toArray, List.set_cons_succ, List.set_cons_zero]
      refine s_val rfl (BigFrame.run_move (.tmp 0) rfl _) ?_
      simp only [Act.put, List.setIfInBounds_toArray, List.set_cons_succ, List.set_cons_zero]
      refine s_val rfl (BigFrame.run_move (.tmp 9) rfl _) ?_
      simp only [Act.put, List.setIfInBounds_toArray, List.set_cons_succ, List.set_cons_zero]
      refine s_val rfl (run_index_nat (x := .tmp 33) (y := .tmp 34) (i := k) rfl Try.underlying9 rfl rfl hks B0.out _) ?_
      simp only [Act.put, List.setIfInBounds_toArray, List.set_cons_succ, List.set_cons_zero]
      refine s_val rfl (BigFrame.run_move (.tmp 1) rfl _) ?_
      simp only [Act.put, List.setIfInBounds_toArray, List.set_cons_succ, List.set_cons_zero]
      refine s_val rfl (BigFrame.run_move (.tmp 9) rfl _) ?_
      simp only [Act.put, List.setIfInBounds_toArray, List.set_cons_succ, List.set_cons_zero]
      refine s_val rfl (run_index_nat (x := .tmp 36) (y := .tmp 37) (i := k) rfl Try.underlying9 rfl rfl hkt B1.out _) ?_
      simp only [Act.put, List.setIfInBounds_toArray, List.set_cons_succ, List.set_cons_zero]
      refine s_val rfl (run_xor8 (x := .tmp 35) (y := .tmp 38) rfl rfl rfl B3.out _) ?_
      simp only [Act.put, List.setIfInBounds_toArray, List.set_cons_succ, List.set_cons_zero]
      refine s_val rfl (BigFrame.run_move (.tmp 2) rfl _) ?_
      simp only [Act.put, List.setIfInBounds_toArray, List.set_cons_succ, List.set_cons_zero]
      refine s_val rfl (BigFrame.run_move (.tmp 9) rfl _) ?_
      simp only [Act.put, List.setIfInBounds_toArray, List.set_cons_succ, List.set_cons_zero]
      refine s_val rfl (run_index_nat (x := .tmp 40) (y := .tmp 41) (i := k) rfl Try.underlying9 rfl rfl hku B2.out _) ?_
      simp only [Act.put, List.setIfInBounds_toArray, List.set_cons_succ, List.set_cons_zero]
      refine s_val rfl (run_xor8 (x := .tmp 39) (y := .tmp 42) rfl rfl rfl B4.out _) ?_
      simp only [Act.put, List.setIfInBounds_toArray, List.set_cons_succ, List.set_cons_zero]
      refine s_val rfl (run_at_nat (x := .tmp 31) (y := .tmp 32) (g := w1.heap.size) (n := s.size) (c := s.size) (i := k) rfl Try.underlying27 size5 rfl rfl hlt _) ?_
      simp only [Act.put, List.setIfInBounds_toArray, List.set_cons_succ, List.set_cons_zero]
      refine wpStill_nil ?_
      have hc2 := HC.out
      have hf2 : wr.drew.frozen? ⟨w1.heap.size, k, none⟩ = false := R.out.drew.free k (by rw [lineK_length HLL.out hk]; exact hlt)
      go_wp2_with fail
      go_roundw
      case rel => exact ⟨k + 1, by omega, by go_num, HRow.out, RB.out.drew.setCell KG.out _⟩
      case measure => simp [intOf]; omega
    · have hkn : k = s.size := by omega
      subst hkn
      rw [lineK_end HLL.out] at R
      go_wp2_with fail
      refine region_class (fun w' => Below wr.heap.size wr w') (by kernel_rfl) (by kernel_rfl) (Below.refl _ _).drew ?_
      refine q_move_is rfl (.tmp 0) (.string s) rfl rfl ?_
      simp only [Act.put, List.setIfInBounds_toArray, List.set_cons_succ, List.set_cons_zero]
      refine q_move_is rfl (.tmp 7) (.int .i64 (s.size : Int)) rfl rfl ?_
      simp only [Act.put, List.setIfInBounds_toArray, List.set_cons_succ, List.set_cons_zero]
      refine q_val rfl (fun w' hw' => run_slice_hi (x := .tmp 45) (y := .tmp 46) rfl Try.underlying9 rfl rfl HS1.out w') ?_
      simp only [Act.put, List.setIfInBounds_toArray, List.set_cons_succ, List.set_cons_zero]
      refine q_call rfl (args := #[.string (s.extract 0 s.size)]) (fun w' hw' => run_call1 (u := .string (s.extract 0 s.size)) rfl Try.call10 rfl w') (fun w' hw' => class_sum (Nat.le_refl _) hw' (s.extract 0 s.size) HMS.out) ?_
      simp only [Act.put, List.setIfInBounds_toArray, List.set_cons_succ, List.set_cons_zero]
      refine q_move_is rfl (.tmp 1) (.string t) rfl rfl ?_
      simp only [Act.put, List.setIfInBounds_toArray, List.set_cons_succ, List.set_cons_zero]
      refine q_move_is rfl (.tmp 7) (.int .i64 (s.size : Int)) rfl rfl ?_
      simp only [Act.put, List.setIfInBounds_toArray, List.set_cons_succ, List.set_cons_zero]
      refine q_val rfl (fun w' hw' => run_slice_hi (x := .tmp 49) (y := .tmp 50) rfl Try.underlying9 rfl rfl HT1.out w') ?_
      simp only [Act.put, List.setIfInBounds_toArray, List.set_cons_succ, List.set_cons_zero]
      refine q_call rfl (args := #[.string (t.extract 0 s.size)]) (fun w' hw' => run_call1 (u := .string (t.extract 0 s.size)) rfl Try.call10 rfl w') (fun w' hw' => class_sum (Nat.le_refl _) hw' (t.extract 0 s.size) HMT.out) ?_
      simp only [Act.put, List.setIfInBounds_toArray, List.set_cons_succ, List.set_cons_zero]
      refine q_val rfl (fun w' hw' => run_xor_is (x := .tmp 48) (y := .tmp 52) rfl rfl rfl (un (sumP (s.extract 0 s.size).data.toList ^^^ sumP (t.extract 0 s.size).data.toList) : Int) (xor_un _ _) w') ?_
      simp only [Act.put, List.setIfInBounds_toArray, List.set_cons_succ, List.set_cons_zero]
      refine q_move_is rfl (.tmp 2) (.string u) rfl rfl ?_
      simp only [Act.put, List.setIfInBounds_toArray, List.set_cons_succ, List.set_cons_zero]
      refine q_move_is rfl (.tmp 7) (.int .i64 (s.size : Int)) rfl rfl ?_
      simp only [Act.put, List.setIfInBounds_toArray, List.set_cons_succ, List.set_cons_zero]
      refine q_val rfl (fun w' hw' => run_slice_hi (x := .tmp 54) (y := .tmp 55) rfl Try.underlying9 rfl rfl HU1.out w') ?_
      simp only [Act.put, List.setIfInBounds_toArray, List.set_cons_succ, List.set_cons_zero]
      refine q_call rfl (args := #[.string (u.extract 0 s.size)]) (fun w' hw' => run_call1 (u := .string (u.extract 0 s.size)) rfl Try.call10 rfl w') (fun w' hw' => class_sum (Nat.le_refl _) hw' (u.extract 0 s.size) HMU.out) ?_
      simp only [Act.put, List.setIfInBounds_toArray, List.set_cons_succ, List.set_cons_zero]
      refine q_val rfl (fun w' hw' => run_xor_is (x := .tmp 53) (y := .tmp 57) rfl rfl rfl (un (sumP (s.extract 0 s.size).data.toList ^^^ sumP (t.extract 0 s.size).data.toList ^^^ sumP (u.extract 0 s.size).data.toList) : Int) (xor_un _ _) w') ?_
      simp only [Act.put, List.setIfInBounds_toArray, List.set_cons_succ, List.set_cons_zero]
      refine q_move_is rfl (.tmp 8) (.slice (some ⟨w1.heap.size, 0, none⟩) s.size s.size) rfl rfl ?_
      simp only [Act.put, List.setIfInBounds_toArray, List.set_cons_succ, List.set_cons_zero]
      refine q_val rfl (fun w' hw' => run_text (x := .tmp 59) (L := L) rfl Try.underlying27 Try.underlying5 Try.underlying9 (g := w1.heap.size) (cap := s.size) (by rw [HLL.out]; rfl) (R.out.later hw' R.out.lt)) ?_
      simp only [Act.put, List.setIfInBounds_toArray, List.set_cons_succ, List.set_cons_zero]
      refine q_call rfl (args := #[.string ⟨L.toArray⟩]) (fun w' hw' => run_call1 (u := .string ⟨L.toArray⟩) rfl Try.call10 rfl w') (fun w' hw' => class_sum (Nat.le_refl _) hw' ⟨L.toArray⟩ HLM.out) ?_
      simp only [Act.put, List.setIfInBounds_toArray, List.set_cons_succ, List.set_cons_zero]
      refine q_val rfl (fun w' hw' => (run_eql_int_is (x := .tmp 58) (y := .tmp 61) rfl rfl rfl true HE.out w')) ?_
      simp only [Act.put, List.setIfInBounds_toArray, List.set_cons_succ, List.set_cons_zero]
      refine q_assign_is rfl (.tmp 62) (.bool true) rfl rfl ?_
      simp only [Act.put, List.setIfInBounds_toArray, List.set_cons_succ, List.set_cons_zero]
      refine wpQuiet_nil ?_
      intro w' hw'
      go_wp2
      go_ret
      exact ⟨rfl, RB.out.trans (hw'.mono RB.out.size)⟩

set_option maxRecDepth 100000 in
set_option maxHeartbeats 1000000 in
theorem long_u1 (s t u : ByteArray) (_hs : s.size ≤ maxLen) (_ht : t.size ≤ maxLen) (_hu : u.size ≤ maxLen) (h1 : t.size < s.size) (h2 : u.size < t.size) (h8 : 800 < u.size) (w : World) :
    Calls Try.prog 7 #[.string s, .string t, .string u] w fun e w' => e = .returned (.bool true) ∧ Below w.heap.size w w' := by
  unfold maxLen at _hs _ht _hu
  go_enter Try.func7, Try.ntmps7
  go_wp2_with fail
  refine (awake_any _).mono ?_
  rintro e w1 ⟨rfl, hb1⟩
  go_wp2_with fail
  refine (awake_any _).mono ?_
  rintro e w2 ⟨rfl, hb2⟩
  go_wp2
  go_ret
  exact ⟨rfl, hb1.trans (hb2.mono hb1.size)⟩

set_option maxRecDepth 100000 in
set_option maxHeartbeats 1000000 in
theorem long_t (s t u : ByteArray) (_hs : s.size ≤ maxLen) (_ht : t.size ≤ maxLen) (_hu : u.size ≤ maxLen) (h1 : t.size < s.size) (h2 : ¬ u.size < t.size) (h8 : 800 < t.size) (w : World) :
    Calls Try.prog 7 #[.string s, .string t, .string u] w fun e w' => e = .returned (.bool true) ∧ Below w.heap.size w w' := by
  unfold maxLen at _hs _ht _hu
  go_enter Try.func7, Try.ntmps7
  go_wp2_with fail
  refine (awake_any _).mono ?_
  rintro e w1 ⟨rfl, hb1⟩
  go_wp2_with fail
  refine (awake_any _).mono ?_
  rintro e w2 ⟨rfl, hb2⟩
  go_wp2
  go_ret
  exact ⟨rfl, hb1.trans (hb2.mono hb1.size)⟩

set_option maxRecDepth 100000 in
set_option maxHeartbeats 1000000 in
theorem long_u2 (s t u : ByteArray) (_hs : s.size ≤ maxLen) (_ht : t.size ≤ maxLen) (_hu : u.size ≤ maxLen) (h1 : ¬ t.size < s.size) (h2 : u.size < s.size) (h8 : 800 < u.size) (w : World) :
    Calls Try.prog 7 #[.string s, .string t, .string u] w fun e w' => e = .returned (.bool true) ∧ Below w.heap.size w w' := by
  unfold maxLen at _hs _ht _hu
  go_enter Try.func7, Try.ntmps7
  go_wp2_with fail
  refine (awake_any _).mono ?_
  rintro e w1 ⟨rfl, hb1⟩
  go_wp2_with fail
  refine (awake_any _).mono ?_
  rintro e w2 ⟨rfl, hb2⟩
  go_wp2
  go_ret
  exact ⟨rfl, hb1.trans (hb2.mono hb1.size)⟩

set_option maxRecDepth 100000 in
set_option maxHeartbeats 1000000 in
theorem long_s (s t u : ByteArray) (_hs : s.size ≤ maxLen) (_ht : t.size ≤ maxLen) (_hu : u.size ≤ maxLen) (h1 : ¬ t.size < s.size) (h2 : ¬ u.size < s.size) (h8 : 800 < s.size) (w : World) :
    Calls Try.prog 7 #[.string s, .string t, .string u] w fun e w' => e = .returned (.bool true) ∧ Below w.heap.size w w' := by
  unfold maxLen at _hs _ht _hu
  go_enter Try.func7, Try.ntmps7
  go_wp2_with fail
  refine (awake_any _).mono ?_
  rintro e w1 ⟨rfl, hb1⟩
  go_wp2_with fail
  refine (awake_any _).mono ?_
  rintro e w2 ⟨rfl, hb2⟩
  go_wp2
  go_ret
  exact ⟨rfl, hb1.trans (hb2.mono hb1.size)⟩

theorem walk_crcLine (s : ByteArray) (hs : s.size ≤ maxLen) (t : ByteArray) (ht : t.size ≤ maxLen) (u : ByteArray) (hu : u.size ≤ maxLen) (w : World) :
    Calls Try.prog 7 #[.string s, .string t, .string u] w fun e w' => e = .returned (.bool true) ∧ Below w.heap.size w w' := by
  by_cases h1 : t.size < s.size
  · by_cases h2 : u.size < t.size
    · by_cases h8 : 800 < u.size
      · exact long_u1 s t u hs ht hu h1 h2 h8 w
      · exact line_u1 s t u h1 h2 (by omega) (by omega) (by omega) (by omega) w
    · by_cases h8 : 800 < t.size
      · exact long_t s t u hs ht hu h1 h2 h8 w
      · exact line_t s t u h1 h2 (by omega) (by omega) (by omega) (by omega) w
  · by_cases h2 : u.size < s.size
    · by_cases h8 : 800 < u.size
      · exact long_u2 s t u hs ht hu h1 h2 h8 w
      · exact line_u2 s t u h1 h2 (by omega) (by omega) (by omega) (by omega) w
    · by_cases h8 : 800 < s.size
      · exact long_s s t u hs ht hu h1 h2 h8 w
      · exact line_s s t u h1 h2 (by omega) (by omega) (by omega) (by omega) w

set_option maxRecDepth 100000 in
theorem crcLine_lifted (os : Os) (started : os.Started) (H : Type) (enc : TypeId × Value → H) :
    ReturnsInHanded {} Try.checked os 7 .any (Rows.crcLineSpec.pre6 enc Try.prog Try.f7 Rows.crcLineRow.domain false) (Rows.crcLineSpec.post enc Try.prog Try.f7 false true false false) := by
  refine returnsInHanded_of_change (C := Try.checked) own started (by kernel_rfl) Try.func7
    (ChangeSpec.witness6 (enc := enc) (C := Try.checked) false ⟨#[], #[.string ByteArray.empty, .string ByteArray.empty, .string ByteArray.empty], []⟩ 8 (by kernel_rfl) (by kernel_rfl) (by kernel_rfl) (by kernel_rfl)) ?_
  intro W base args ds gs before hval0 hW hcnd hsz
  have hval : ∀ (j : Nat) t v, Try.f7.params[j]? = some t → args[j]? = some v → Value.okWide Try.prog W .any base t v := hval0
  have hW' := hW
  obtain ⟨p, q, hA0, hV, rfl, hfz, hnd⟩ := hW
  have hA : DataW.TrodAll enc Try.prog W 0 (fun _ => true) true Try.f7.params.toList args.toList ds p := hA0
  rw [Try.params7] at hA hval
  obtain ⟨v0, vs0, d0, ds0, p0, q0, hargs, rfl, rfl, h0, r0⟩ := trodAll_cons hA
  obtain ⟨v1, vs1, d1, ds1, p1, q1, rfl, rfl, rfl, h1, r1⟩ := trodAll_cons r0
  obtain ⟨v2, vs2, d2, ds2, p2, q2, rfl, rfl, rfl, h2, r2⟩ := trodAll_cons r1
  obtain ⟨rfl, rfl, rfl⟩ := trodAll_nil r2
  obtain rfl : args = #[v0, v1, v2] := by cases args; simp_all
  obtain ⟨rfl, rfl⟩ := trodVars_none hV
  have k0 := h0
  have lt0 : ∀ x ∈ p0, x.block < W.heap.size := by obtain ⟨m, hm⟩ := k0; exact DataW.trod_lt m _ _ _ hm
  have k1 := h1
  have lt1 : ∀ x ∈ p1, x.block < W.heap.size := by obtain ⟨m, hm⟩ := k1; exact DataW.trod_lt m _ _ _ hm
  have k2 := h2
  have lt2 : ∀ x ∈ p2, x.block < W.heap.size := by obtain ⟨m, hm⟩ := k2; exact DataW.trod_lt m _ _ _ hm
  obtain ⟨s0, rfl, rfl, rfl, ws0⟩ := open_string Try.underlying9 (hval 0 9 v0 rfl rfl) h0
  obtain ⟨s1, rfl, rfl, rfl, ws1⟩ := open_string Try.underlying9 (hval 1 9 v1 rfl rfl) h1
  obtain ⟨s2, rfl, rfl, rfl, ws2⟩ := open_string Try.underlying9 (hval 2 9 v2 rfl rfl) h2
  clear hA0 hval0
  refine (walk_crcLine s0 ws0 s1 ws1 s2 ws2 W).mono fun e W' ⟨he, bel⟩ => ?_
  subst he
  exact ⟨_, rfl, _, _, _, [], _, [], hW', trodAll_mk1 (shut_bool Try.underlying4 _), (trodAll_cons_mk (Below.trod laidOut (by kernel_rfl) (of_decide_eq_true (by kernel_rfl)) k0 bel lt0) (trodAll_cons_mk (Below.trod laidOut (by kernel_rfl) (of_decide_eq_true (by kernel_rfl)) k1 bel lt1) (trodAll_cons_mk (Below.trod laidOut (by kernel_rfl) (of_decide_eq_true (by kernel_rfl)) k2 bel lt2) trodAll_mk0))), rfl, bel.frame _, fun h => by cases h⟩

theorem crcLine_holds : Rows.CrcLineSaid :=
  OpenClaim.holds_of_wide 7 Try.f7 rfl rfl rfl rfl rfl rfl rfl ⟨rfl, rfl, rfl, rfl, rfl⟩ rfl rfl rfl rfl rfl (by kernel_rfl) Try.func7 (by kernel_rfl)
    (of_decide_eq_true (by kernel_rfl)) (by unfold Func.isWrapper; first | (rw [if_pos (by decide +kernel)]; kernel_rfl) | (rw [if_neg (by decide +kernel)]; exact ⟨rfl, rfl⟩))
    (fun os started H enc _ => crcLine_lifted os started H enc)

#print axioms crcLine_holds
end Go.Proofs.Ytpocmbbnloccoaa
