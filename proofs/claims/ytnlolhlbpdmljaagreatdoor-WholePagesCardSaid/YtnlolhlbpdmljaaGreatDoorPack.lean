/-
  Numbers in bytes: pack.may, pack.fits, pack.Put, pack.Get on what is asked for right.
  Conditions: the width is 1 to 4 and the number fits it; what is read has that many bytes.
-/
import Derived.Test.YtnlolhlbpdmljaaGreatDoorBitC
import Derived.Laws.IdiomStrings
namespace Go.Proofs.YtnlolhlbpdmljaaGreatDoor
open Go.ChangeShapes Go.WideShapes Go.RowKit

abbrev B8 := List UInt8
def cellsB (l : B8) : List Value := l.map (fun b => .int .u8 (b.toNat : Int))
def strB (l : B8) : ByteArray := ⟨l.toArray⟩
theorem cellsB_length (l : B8) : (cellsB l).length = l.length := by unfold cellsB; simp
theorem cellsB_append (l m : B8) : cellsB (l ++ m) = cellsB l ++ cellsB m := by unfold cellsB; simp
theorem cellsB_one (l : B8) : ∀ u ∈ cellsB l, u.oneCell' = true := by
  intro u hu
  unfold cellsB at hu
  rw [List.mem_map] at hu
  obtain ⟨b, _, rfl⟩ := hu
  rfl
theorem strB_size (l : B8) : (strB l).size = l.length := by unfold strB; rw [← ByteArray.size_data]; simp
theorem strB_list (l : B8) : (strB l).data.toList = l := by unfold strB; simp
theorem strB_inj {l m : B8} (h : strB l = strB m) : l = m := by rw [← strB_list l, h, strB_list]
/-- The bytes of a number, the greatest first. -/
def be (w n : Nat) : B8 := (List.range w).map (fun i => UInt8.ofNat (n / 2 ^ (8 * (w - 1 - i))))
theorem be_length (w n : Nat) : (be w n).length = w := by unfold be; simp
def unbe (l : B8) : Nat := l.foldl (fun a b => a * 256 + b.toNat) 0
theorem be_succ (w n : Nat) : be (w + 1) n = be w (n / 256) ++ [UInt8.ofNat n] := by
  unfold be
  rw [List.range_succ, List.map_append, List.map_singleton]
  congr 1
  · apply List.map_congr_left
    intro i hi
    rw [List.mem_range] at hi
    rw [Nat.div_div_eq_div_mul]
    have : 256 * 2 ^ (8 * (w - 1 - i)) = 2 ^ (8 * (w + 1 - 1 - i)) := by
      rw [show 8 * (w + 1 - 1 - i) = 8 + 8 * (w - 1 - i) by omega, Nat.pow_add]
    rw [this]
  · simp
theorem unbe_snoc (l : B8) (b : UInt8) : unbe (l ++ [b]) = unbe l * 256 + b.toNat := by unfold unbe; rw [List.foldl_append]; rfl
theorem unbe_be : ∀ (w n : Nat), n < 256 ^ w → unbe (be w n) = n := by
  intro w
  induction w with
  | zero => intro n h; simp at h; subst h; rfl
  | succ w ih =>
    intro n h
    rw [be_succ, unbe_snoc, ih (n / 256) (by rw [Nat.pow_succ] at h; omega)]
    have : (UInt8.ofNat n).toNat = n % 256 := by simp
    rw [this]; omega

set_option maxHeartbeats 400000 in
theorem pmay_any (w : Nat) (h1 : 1 ≤ w) (h4 : w ≤ 4) (W : World) : Calls Tryz.prog 116 #[.int .i64 (w : Int)] W fun e w' => e = .returned (.bool true) ∧ W = w' := by
  have hd1 : decide ((1 : Int) ≤ (w : Int)) = true := decide_eq_true (by omega)
  have hd2 : decide ((w : Int) ≤ 4) = true := decide_eq_true (by omega)
  go_enter Tryz.func116, Tryz.ntmps116
  go_wp2
  go_ret
  exact ⟨rfl, rfl⟩
set_option maxHeartbeats 400000 in
theorem fits_any (w n : Nat) (h1 : 1 ≤ w) (h4 : w ≤ 4) (hn : n < 256 ^ w) (W : World) : Calls Tryz.prog 93 #[.int .i64 (w : Int), .int .i64 (n : Int)] W fun e w' => e = .returned (.bool true) ∧ W = w' := by
  have hd1 : decide ((0 : Int) ≤ (n : Int)) = true := decide_eq_true (by omega)
  have hz : ((n : Int) / 2 ^ (8 * w) == 0) = true := by
    rw [beq_iff_eq]
    have : n / 2 ^ (8 * w) = 0 := Nat.div_eq_of_lt (by rw [Nat.pow_mul]; exact hn)
    have h := congrArg (fun (x : Nat) => (x : Int)) this
    simpa using h
  go_enter Tryz.func93, Tryz.ntmps93
  go_wp2_with fail
  refine (pmay_any w h1 h4 _).mono ?_
  rintro e w' ⟨rfl, rfl⟩
  go_wp2
  go_ret
  exact ⟨rfl, rfl⟩

theorem info5 : (Tryz.prog.info? 5).map (fun i => (i.zero, i.size, i.bytes)) = some (some (.int .u8 0), 1, 1) := by kernel_rfl
theorem size5' : (Tryz.prog.info? 5).map (·.size) = some 1 := by kernel_rfl
/-- A row of bytes of the call's own, as a text. -/
theorem run_text_own {ρ : Operand → Value} {o : Oper} {x : Operand} (ho : o.op = .convert 94 9 x) {w : World} {B : Nat} {v : Value} {l : B8} {n : Nat} (hx : ρ x = v) (hn : n = l.length) (h : w.ownsRow B 5 1 v n (cellsB l)) :
    (execOp ρ o).run Tryz.prog w = .ok (.value (.string (strB l))) w := by
  subst hn
  have hr : (convert 94 9 v).run Tryz.prog w = .ok (.string (strB l)) w := by
    rcases h.2 with ⟨rfl, h0⟩ | ⟨g, cap, cur, rfl, _, hh, _, _, hs, hcs⟩
    · have hl : l = [] := List.eq_nil_of_length_eq_zero h0
      subst hl
      rw [run_convert_bytes_string w 94 9 5 none 0 0 Tryz.underlying94 Tryz.underlying5 Tryz.underlying9]
      rfl
    · refine run_convert_bytes_back w 94 9 5 ⟨g, 0, none⟩ cap l Tryz.underlying94 Tryz.underlying5 Tryz.underlying9 (fun j hj => ?_)
      have hc := congrArg (fun t => t[j]?) hcs
      simp only [List.getElem?_take, Array.getElem?_toList] at hc
      rw [if_pos (by omega)] at hc
      rw [addr_add, cell_of_row w g j cur 5 (0, 0) hh, hc]
      unfold cellsB
      simp [hj]
  unfold execOp
  rw [ho]
  simp only [hx, Sem.run_bind, hr, Result.andThen_ok, Sem.run_pure]
set_option maxRecDepth 100000 in
set_option maxHeartbeats 1000000 in
theorem put_any (w n : Nat) (h1 : 1 ≤ w) (h4 : w ≤ 4) (hn : n < 256 ^ w) (W : World) : Calls Tryz.prog 68 #[.int .i64 (w : Int), .int .i64 (n : Int)] W fun e w' => e = .returned (.string (strB (be w n))) ∧ Below W.heap.size W w' := by
  obtain ⟨i0, hi0, hz0, hz1, hz2⟩ := info_parts info5
  have HF := Lib.hid (fits_any w n h1 h4 hn W)
  clear hn
  go_enter Tryz.func68, Tryz.ntmps68
  go_wp2_with fail
  refine HF.out.mono ?_
  rintro e w1 ⟨rfl, rfl⟩
  go_wp2_with fail
  go_loopw [5, 12] (fun b i wr => ∃ k : Nat, i = .int .i64 k ∧ k ≤ w ∧ wr.ownsRow W.heap.size 5 1 b k (cellsB ((be w n).take k)) ∧ Below W.heap.size W wr) (fun _ i _ => w - (intOf i).toNat)
  case atStart => exact ⟨0, rfl, by omega, by simpa [cellsB] using World.ownsRow_nil _ _ _ _, Below.refl _ _⟩
  case round =>
    obtain ⟨k, rfl, hk, hO, hb⟩ := hrel
    have OO := Lib.hid hO
    have BB := Lib.hid hb
    clear hO hb
    by_cases hlt : k < w
    · have HLT := Lib.hid hlt
      obtain ⟨p, hp⟩ : ∃ p, p = w - 1 - k := ⟨_, rfl⟩
      have hp4 : p ≤ 3 := by omega
      have hpe : (w : Int) - 1 - (k : Int) = (p : Int) := by omega
      obtain ⟨b, hb⟩ : ∃ b, b = UInt8.ofNat (n / 2 ^ (8 * p)) := ⟨_, rfl⟩
      have hbw : IntKind.u8.wrap ((n : Int) / 2 ^ (8 * p)) = (b.toNat : Int) := by
        rw [hb]
        have h : (n : Int) / 2 ^ (8 * p) = ((n / 2 ^ (8 * p) : Nat) : Int) := by simp
        rw [h]
        simp [IntKind.wrap, IntKind.signed, IntKind.bits]
      obtain ⟨U2, hU2⟩ : ∃ u, u = wr.alloc (.cells #[.int .u8 (b.toNat : Int)] 5) := ⟨_, rfl⟩
      obtain ⟨G, hG⟩ : ∃ u, u = wr.heap.size := ⟨_, rfl⟩
      have hb2 : Below wr.heap.size wr U2 := by rw [hU2]; exact (Below.refl _ _).alloc (Nat.le_refl _) _
      have X2 := Lib.hid (show U2.heap[G]? = some (.cells #[.int .u8 (b.toNat : Int)] 5 (0, 0)) by rw [hU2, hG]; exact heap_alloc_new wr _)
      have D2 := Lib.hid (own_row OO.out (fun q hq => hb2.block q (own_lt OO.out hq).1))
      have BU := Lib.hid (BB.out.trans (hb2.mono BB.out.size))
      have HUU := Lib.hid hU2
      have HGG := Lib.hid hG
      have HB := Lib.hid hb
      have HP := Lib.hid hp
      clear hb2 hU2 hG hb hp hlt
      go_wp2_with (at_builtin; rw [← HUU.out, ← HGG.out]; refine wpList_append_any _ rfl (.tmp 15) (.tmp 24) _ rfl W.heap.size 5 i0 _ 1 1 Tryz.underlying94 hi0 hz0 hz1 hz2 rfl (by omega) u5 k (cellsB ((be w n).take k)) rfl D2.out _ (some ⟨G, 0, none⟩) 1 1 [.int .u8 (b.toNat : Int)] rfl (reads_news X2.out rfl) (by simp [Value.oneCell']) (by unfold maxLen; omega) (by omega) BU.out.size ?_; intro v5 w5 hown5 hgr5 hat5)
      have NX := Lib.hid (show w5.ownsRow W.heap.size 5 1 v5 (k + 1) (cellsB ((be w n).take (k + 1))) by
        have e : (be w n).take (k + 1) = (be w n).take k ++ [b] := by
          rw [List.take_add_one]
          congr 1
          unfold be
          rw [List.getElem?_map, List.getElem?_range HLT.out, HB.out, HP.out]
          rfl
        rw [e, cellsB_append]
        exact hown5)
      have NB := Lib.hid (BU.out.grown hgr5 BU.out.size (fun q hq => (own_lt D2.out hq).2))
      clear hown5 hgr5 hat5
      go_roundw
      case rel => exact ⟨k + 1, by go_num, HLT.out, NX.out, NB.out⟩
      case measure => have := HLT.out; simp [intOf]; omega
    · have hkl : k = w := by omega
      subst hkl
      have OE := Lib.hid (show wr.ownsRow W.heap.size 5 1 u5 k (cellsB (be k n)) by have := OO.out; rw [List.take_of_length_le (by rw [be_length]; exact Nat.le_refl _)] at this; exact this)
      go_wp2_with (refine l_val rfl (run_text_own (x := .tmp 27) rfl rfl (be_length k n).symm OE.out) ?_)
      go_ret
      exact ⟨rfl, BB.out⟩

theorem i64_or_nat (a b : Nat) (ha : a < 2 ^ 62) (hb : b < 2 ^ 62) : bits .or .i64 (a : Int) (b : Int) = ((a ||| b : Nat) : Int) := by
  have hx : a ||| b < 2 ^ 62 := Nat.or_lt_two_pow ha hb
  show IntKind.i64.wrap ((BitVec.ofInt 64 (a : Int) ||| BitVec.ofInt 64 (b : Int)).toNat : Int) = _
  have e : ∀ x : Nat, x < 2 ^ 62 → (BitVec.ofInt 64 (x : Int)).toNat = x := fun x hx => by
    simp; omega
  rw [BitVec.toNat_or, e a ha, e b hb, IntKind.wrap_i64]
  omega
theorem unbe_bound : ∀ (l : B8), unbe l < 256 ^ l.length := by
  have h : ∀ (l : B8) (a : Nat), l.foldl (fun a b => a * 256 + b.toNat) a < (a + 1) * 256 ^ l.length := by
    intro l
    induction l with
    | nil => intro a; simp
    | cons b l ih =>
      intro a
      simp only [List.foldl_cons, List.length_cons]
      refine Nat.lt_of_lt_of_le (ih _) ?_
      rw [Nat.pow_succ, Nat.mul_comm (256 ^ l.length) 256, ← Nat.mul_assoc]
      exact Nat.mul_le_mul_right _ (by have := b.toNat_lt; omega)
  intro l
  have := h l 0
  simpa [unbe] using this
theorem get_step {l : B8} {k : Nat} (hk : k < l.length) (hk3 : k ≤ 3) : bits BinOp.or IntKind.i64 (wrap64 ((unbe (l.take k) : Int) * 256)) (wrap64 ((l[k].toNat : Nat) : Int)) = (unbe (l.take (k + 1)) : Int) := by
  have hb := unbe_bound (l.take k)
  have hl : (l.take k).length = k := by rw [List.length_take]; omega
  rw [hl] at hb
  have hp : 256 ^ k ≤ 256 ^ 3 := Nat.pow_le_pow_right (by omega) hk3
  have e : l.take (k + 1) = l.take k ++ [l[k]] := by rw [List.take_add_one, List.getElem?_eq_getElem hk]; rfl
  rw [e, unbe_snoc]
  obtain ⟨a, ha⟩ : ∃ a, a = unbe (l.take k) := ⟨_, rfl⟩
  obtain ⟨b, hbb⟩ : ∃ b, b = l[k].toNat := ⟨_, rfl⟩
  have hb8 : b < 256 := by rw [hbb]; exact l[k].toNat_lt
  rw [← ha, ← hbb]
  rw [← ha] at hb
  have ha3 : a < 16777216 := by omega
  have w1 : wrap64 ((a : Int) * 256) = ((a * 256 : Nat) : Int) := by unfold wrap64; omega
  have w2 : wrap64 (b : Int) = (b : Int) := by unfold wrap64; omega
  rw [w1, w2, i64_or_nat _ _ (by omega) (by omega)]
  have h := Nat.two_pow_add_eq_or_of_lt (i := 8) (b := b) (by omega) a
  rw [show a * 256 = 2 ^ 8 * a by omega, ← h]
set_option maxRecDepth 100000 in
set_option maxHeartbeats 1000000 in
theorem get_any (l : B8) (w : Nat) (h1 : 1 ≤ w) (h4 : w ≤ 4) (hl : w ≤ l.length) (hm : l.length ≤ 1000) (W : World) : Calls Tryz.prog 91 #[.string (strB l), .int .i64 (w : Int)] W fun e w' => e = .returned (.tuple #[.int .i64 (unbe (l.take w) : Int), .nilIface]) ∧ W = w' := by
  have HM := Lib.hid (fun W => pmay_any w h1 h4 W)
  have hsz : (strB l).size = l.length := strB_size l
  have hlw : ¬ l.length < w := by omega
  go_enter Tryz.func91, Tryz.ntmps91
  go_wp2_with fail
  refine (HM.out _).mono ?_
  rintro e w1 ⟨rfl, rfl⟩
  go_wp2_with fail
  go_loopw [6, 22] (fun n i wr => ∃ k : Nat, i = .int .i64 k ∧ k ≤ w ∧ n = .int .i64 (unbe (l.take k) : Int) ∧ wr = W) (fun _ i _ => w - (intOf i).toNat)
  case atStart => exact ⟨0, rfl, by omega, rfl, rfl⟩
  case round =>
    obtain ⟨k, rfl, hk, rfl, rfl⟩ := hrel
    by_cases hlt : k < w
    · have HS := Lib.hid (get_step (show k < l.length by omega) (show k ≤ 3 by omega))
      have hkl : k < l.length := by omega
      go_wp2_with fail
      go_roundw
      case rel => exact ⟨k + 1, by go_num, hlt, by rw [← HS.out]; rfl, trivial⟩
      case measure => simp [intOf]; omega
    · have hkw : k = w := by omega
      subst hkw
      go_wp2_with fail
      go_ret2
      exact ⟨rfl, rfl⟩
end Go.Proofs.YtnlolhlbpdmljaaGreatDoor
