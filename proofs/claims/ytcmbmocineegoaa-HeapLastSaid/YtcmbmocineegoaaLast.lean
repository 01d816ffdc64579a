/-
  A greatest one that is pushed first is popped last: HeapLast answers true at every list, and writes nothing that was there.
  Conditions: none.
-/
import Derived.Test.YtcmbmocineegoaaTurns
namespace Go.Proofs.Ytcmbmocineegoaa
open Go.ChangeShapes Go.WideShapes Go.ChangeAt Go.RowKit

theorem rowc {w : World} {g : Nat} {x : D} (h : w.heap[g]? = some (.cells #[.int .i64 x.1, .int .i64 x.2] 30 (0, 0))) : w.cell? ⟨g, 0, none⟩ = some (.int .i64 x.1) ∧ w.cell? ⟨g, 0 + 1, none⟩ = some (.int .i64 x.2) := ⟨(at_of_row h).1, (at_of_row h).2.1⟩
theorem row_lt {w : World} {g : Nat} {o : Obj} (h : w.heap[g]? = some o) : g < w.heap.size := by
  rcases Nat.lt_or_ge g w.heap.size with hl | hl
  · exact hl
  · rw [Array.getElem?_eq_none hl] at h; cases h
theorem keep_row {w w' : World} {g : Nat} {x : D} (h : w.heap[g]? = some (.cells #[.int .i64 x.1, .int .i64 x.2] 30 (0, 0))) (hb : Below w.heap.size w w') : w'.heap[g]? = some (.cells #[.int .i64 x.1, .int .i64 x.2] 30 (0, 0)) := (hb.block g (row_lt h)).trans h
theorem put_row {w : World} {g : Nat} {x : D} (h : w.heap[g]? = some (.cells #[.int .i64 x.1, .int .i64 x.2] 30 (0, 0))) (y : D) : (putD w g 0 y).heap[g]? = some (.cells #[.int .i64 y.1, .int .i64 y.2] 30 (0, 0)) := by
  unfold putD; simp [World.setCell, Array.getElem?_modify, h]

/-- The state of the third loop. -/
def LInv (U : World) (l : List D) (x : D) (L : Nat) (n i : Value) (wr : World) : Prop :=
  ∃ (k : Nat) (v : Value) (rest done : List D) (y : D), n = .int .i64 k ∧ i = .int .i64 k ∧ HObj wr U.heap.size v ∧ wr.ownsRow U.heap.size 30 2 v rest.length (dcells rest) ∧ HAll rest ∧
    wr.heap[L]? = some (.cells #[.int .i64 y.1, .int .i64 y.2] 30 (0, 0)) ∧ done.length = k ∧ (done ++ rest).Perm (x :: l) ∧ Rising done ∧ (∀ a ∈ done, ∀ b ∈ rest, less b a = false) ∧ (done = [] ∨ ∃ d, done = d ++ [y]) ∧
    (∀ q, v.ownBlock = some q → q ≠ L) ∧ Below U.heap.size U wr

set_option maxRecDepth 100000 in
set_option maxHeartbeats 1000000 in
theorem last_run (w : World) (A : Option Addr) (c : Nat) (l : List D) (hr : DReads w w.heap.size A l) (hl : l.length ≤ 200) :
    Calls Try.prog 5 #[.slice A l.length c] w fun e w' => e = .returned (.bool true) ∧ Below w.heap.size w w' := by
  have HR := Lib.hid hr
  have g1 : decide ((200 : Int) < (l.length : Int)) = false := decide_eq_false (by omega)
  clear hr
  go_enter Try.func5, Try.ntmps5
  go_wp2_with fail
  refine (awake_any _).mono ?_
  rintro e w1 ⟨rfl, hb1⟩
  have B1 := Lib.hid (hb1.alloc hb1.size (.cells #[.int .i64 0, .int .i64 0] 30))
  obtain ⟨M, hM⟩ : ∃ M, M = w1.heap.size := ⟨_, rfl⟩
  have HM := Lib.hid (show w.heap.size ≤ M by rw [hM]; exact hb1.size)
  have R1 := Lib.hid (show (w1.alloc (.cells #[.int .i64 0, .int .i64 0] 30)).heap[M]? = some (.cells #[.int .i64 ((0, 0) : D).1, .int .i64 ((0, 0) : D).2] 30 (0, 0)) by rw [hM]; exact heap_alloc_new w1 _)
  clear hb1
  go_wp2_with fail
  rw [← hM]
  clear hM
  go_loopw [4] (fun i wr => ∃ (k : Nat) (x : D), i = .int .i64 k ∧ k ≤ l.length ∧ wr.heap[M]? = some (.cells #[.int .i64 x.1, .int .i64 x.2] 30 (0, 0)) ∧ (∀ j, j < k → less x (at_ l j) = false) ∧ Below w.heap.size w wr) (fun i _ => l.length - (intOf i).toNat)
  case atStart => exact ⟨0, (0, 0), rfl, by omega, R1.out, fun j hj => by omega, B1.out⟩
  case round =>
    obtain ⟨k, x, rfl, hk, hX, hmx, hb⟩ := hrel
    have RX := Lib.hid hX
    have MX := Lib.hid hmx
    have B := Lib.hid hb
    clear hX hmx hb
    by_cases hlt : k < l.length
    · obtain ⟨ad, rfl, hadB, hcell⟩ := (HR.out.below B.out) (by omega)
      obtain ⟨hx1, hx2⟩ := hcell k hlt
      have HX1 := Lib.hid hx1
      have HX2 := Lib.hid hx2
      have hadW : ad.block < wr.heap.size := Nat.lt_of_lt_of_le hadB B.out.size
      have HAD := Lib.hid (show (ad.add (k * 2)).block < wr.heap.size ∧ ((ad.add (k * 2)).add 1).block < wr.heap.size by rw [block_add, block_add, block_add]; exact ⟨hadW, hadW⟩)
      have HADM := Lib.hid hadB
      have HLT := Lib.hid hlt
      clear hcell hx1 hx2 hadB hadW
      clear hlt
      by_cases h0 : k = 0
      · have K0 := Lib.hid (show (((k : Nat) : Int) == 0) = true by rw [h0]; rfl)
        have NM := Lib.hid (show ∀ j, j < k + 1 → less (at_ l k) (at_ l j) = false from fun j hj => by
          have e : j = k := by omega
          rw [e]; exact less_irrefl _)
        clear h0
        go_wp2_with fail
        refine region_class (fun w' => Below wr.heap.size wr w') (by kernel_rfl) (by kernel_rfl) (Below.refl _ _).drew ?_
        refine q_move_is rfl (.tmp 4) (.int .i64 (k : Int)) rfl rfl ?_
        simp only [Act.put, List.setIfInBounds_toArray, List.set_cons_succ, List.set_cons_zero]
        refine q_val rfl (fun w' hw' => (run_eql_int_is (x := .tmp 27) (y := .const (.int .i64 0)) rfl rfl rfl true K0.out w')) ?_
        simp only [Act.put, List.setIfInBounds_toArray, List.set_cons_succ, List.set_cons_zero]
        refine q_move_is rfl (.tmp 28) (.bool true) rfl rfl ?_
        simp only [Act.put, List.setIfInBounds_toArray, List.set_cons_succ, List.set_cons_zero]
        refine q_skip rfl ?_
        simp only [Act.put, List.setIfInBounds_toArray, List.set_cons_succ, List.set_cons_zero]
        refine q_skip rfl ?_
        simp only [Act.put, List.setIfInBounds_toArray, List.set_cons_succ, List.set_cons_zero]
        refine q_skip rfl ?_
        simp only [Act.put, List.setIfInBounds_toArray, List.set_cons_succ, List.set_cons_zero]
        refine q_skip rfl ?_
        simp only [Act.put, List.setIfInBounds_toArray, List.set_cons_succ, List.set_cons_zero]
        refine q_skip rfl ?_
        simp only [Act.put, List.setIfInBounds_toArray, List.set_cons_succ, List.set_cons_zero]
        refine q_skip rfl ?_
        simp only [Act.put, List.setIfInBounds_toArray, List.set_cons_succ, List.set_cons_zero]
        refine q_val rfl (fun w' hw' => run_pick (c := .tmp 29) (a := .const (.bool true)) (b := .tmp 35) rfl (t := true) rfl w') ?_
        simp only [Act.put, List.setIfInBounds_toArray, List.set_cons_succ, List.set_cons_zero]
        refine wpQuiet_nil ?_
        intro w5 hw5
        have B5 := Lib.hid (B.out.trans (hw5.mono B.out.size))
        have R5 := Lib.hid (keep_row RX.out hw5)
        have Y1 := Lib.hid ((hw5.cell HAD.out.1).trans HX1.out)
        have Y2 := Lib.hid ((hw5.cell HAD.out.2).trans HX2.out)
        obtain ⟨s1, s2, s3, s4⟩ := at_of_row R5.out
        clear hw5
        go_wp2_with (first | refine l_val rfl (run_at_dueA (x := .tmp 37) (y := .tmp 38) (ad := ad) (i := k) rfl rfl rfl HLT.out _) ?_ | refine l_val rfl (run_load_dueA (x := .tmp 39) (d := at_ l k) rfl rfl Y1.out Y2.out) ?_)
        go_roundw
        case rel => exact ⟨k + 1, at_ l k, by go_num, HLT.out, put_row R5.out (at_ l k), NM.out, B5.out.trans (kept_below (putD_kept w5 M 0 (at_ l k)) B5.out.size (fun y hy => by subst hy; exact HM.out))⟩
        case measure => have := HLT.out; simp [intOf]; omega
      · have K0 := Lib.hid (show (((k : Nat) : Int) == 0) = false by rw [beq_eq_false_iff_ne]; omega)
        clear h0
        cases hls : less x (at_ l k) with
        | false =>
          have HL := Lib.hid hls
          have NM := Lib.hid (show ∀ j, j < k + 1 → less x (at_ l j) = false from fun j hj => by
            by_cases e : j = k
            · rw [e]; exact hls
            · exact MX.out j (by omega))
          clear hls
          go_wp2_with fail
          refine region_class (fun w' => Below wr.heap.size wr w') (by kernel_rfl) (by kernel_rfl) (Below.refl _ _).drew ?_
          refine q_move_is rfl (.tmp 4) (.int .i64 (k : Int)) rfl rfl ?_
          simp only [Act.put, List.setIfInBounds_toArray, List.set_cons_succ, List.set_cons_zero]
          refine q_val rfl (fun w' hw' => (run_eql_int_is (x := .tmp 27) (y := .const (.int .i64 0)) rfl rfl rfl false K0.out w')) ?_
          simp only [Act.put, List.setIfInBounds_toArray, List.set_cons_succ, List.set_cons_zero]
          refine q_move_is rfl (.tmp 28) (.bool false) rfl rfl ?_
          simp only [Act.put, List.setIfInBounds_toArray, List.set_cons_succ, List.set_cons_zero]
          refine q_val rfl (fun w' hw' => run_load_due (x := .tmp 3) (g := M) (i := 0) (d := x) rfl rfl (rowc (keep_row RX.out hw')).1 (rowc (keep_row RX.out hw')).2) ?_
          simp only [Act.put, List.setIfInBounds_toArray, List.set_cons_succ, List.set_cons_zero]
          refine q_move_is rfl (.tmp 0) (.slice (some ad) l.length c) rfl rfl ?_
          simp only [Act.put, List.setIfInBounds_toArray, List.set_cons_succ, List.set_cons_zero]
          refine q_move_is rfl (.tmp 4) (.int .i64 (k : Int)) rfl rfl ?_
          simp only [Act.put, List.setIfInBounds_toArray, List.set_cons_succ, List.set_cons_zero]
          refine q_val rfl (fun w' hw' => run_at_dueA (x := .tmp 31) (y := .tmp 32) (ad := ad) (i := k) rfl rfl rfl HLT.out w') ?_
          simp only [Act.put, List.setIfInBounds_toArray, List.set_cons_succ, List.set_cons_zero]
          refine q_val rfl (fun w' hw' => run_load_dueA (x := .tmp 33) (d := at_ l k) rfl rfl ((hw'.cell HAD.out.1).trans HX1.out) ((hw'.cell HAD.out.2).trans HX2.out)) ?_
          simp only [Act.put, List.setIfInBounds_toArray, List.set_cons_succ, List.set_cons_zero]
          refine q_call rfl (args := #[dv x, dv (at_ l k)]) (fun w' hw' => run_call2 (u := dv x) (v := dv (at_ l k)) rfl Try.call20 rfl rfl w') (fun w' hw' => by have := class_less (Nat.le_refl _) hw' x (at_ l k); rw [HL.out] at this; exact this) ?_
          simp only [Act.put, List.setIfInBounds_toArray, List.set_cons_succ, List.set_cons_zero]
          refine q_val rfl (fun w' hw' => run_pick (c := .tmp 29) (a := .const (.bool true)) (b := .tmp 35) rfl (t := false) rfl w') ?_
          simp only [Act.put, List.setIfInBounds_toArray, List.set_cons_succ, List.set_cons_zero]
          refine wpQuiet_nil ?_
          intro w5 hw5
          have B5 := Lib.hid (B.out.trans (hw5.mono B.out.size))
          have R5 := Lib.hid (keep_row RX.out hw5)
          clear hw5
          go_wp2_with fail
          go_roundw
          case rel => exact ⟨k + 1, x, by go_num, HLT.out, R5.out, NM.out, B5.out⟩
          case measure => have := HLT.out; simp [intOf]; omega
        | true =>
          have HL := Lib.hid hls
          have NM := Lib.hid (show ∀ j, j < k + 1 → less (at_ l k) (at_ l j) = false from fun j hj => by
            by_cases e : j = k
            · rw [e]; exact less_irrefl _
            · have h1 := MX.out j (by omega)
              have h2 := less_asymm hls
              exact le_trans' h1 h2)
          clear hls
          go_wp2_with fail
          refine region_class (fun w' => Below wr.heap.size wr w') (by kernel_rfl) (by kernel_rfl) (Below.refl _ _).drew ?_
          refine q_move_is rfl (.tmp 4) (.int .i64 (k : Int)) rfl rfl ?_
          simp only [Act.put, List.setIfInBounds_toArray, List.set_cons_succ, List.set_cons_zero]
          refine q_val rfl (fun w' hw' => (run_eql_int_is (x := .tmp 27) (y := .const (.int .i64 0)) rfl rfl rfl false K0.out w')) ?_
          simp only [Act.put, List.setIfInBounds_toArray, List.set_cons_succ, List.set_cons_zero]
          refine q_move_is rfl (.tmp 28) (.bool false) rfl rfl ?_
          simp only [Act.put, List.setIfInBounds_toArray, List.set_cons_succ, List.set_cons_zero]
          refine q_val rfl (fun w' hw' => run_load_due (x := .tmp 3) (g := M) (i := 0) (d := x) rfl rfl (rowc (keep_row RX.out hw')).1 (rowc (keep_row RX.out hw')).2) ?_
          simp only [Act.put, List.setIfInBounds_toArray, List.set_cons_succ, List.set_cons_zero]
          refine q_move_is rfl (.tmp 0) (.slice (some ad) l.length c) rfl rfl ?_
          simp only [Act.put, List.setIfInBounds_toArray, List.set_cons_succ, List.set_cons_zero]
          refine q_move_is rfl (.tmp 4) (.int .i64 (k : Int)) rfl rfl ?_
          simp only [Act.put, List.setIfInBounds_toArray, List.set_cons_succ, List.set_cons_zero]
          refine q_val rfl (fun w' hw' => run_at_dueA (x := .tmp 31) (y := .tmp 32) (ad := ad) (i := k) rfl rfl rfl HLT.out w') ?_
          simp only [Act.put, List.setIfInBounds_toArray, List.set_cons_succ, List.set_cons_zero]
          refine q_val rfl (fun w' hw' => run_load_dueA (x := .tmp 33) (d := at_ l k) rfl rfl ((hw'.cell HAD.out.1).trans HX1.out) ((hw'.cell HAD.out.2).trans HX2.out)) ?_
          simp only [Act.put, List.setIfInBounds_toArray, List.set_cons_succ, List.set_cons_zero]
          refine q_call rfl (args := #[dv x, dv (at_ l k)]) (fun w' hw' => run_call2 (u := dv x) (v := dv (at_ l k)) rfl Try.call20 rfl rfl w') (fun w' hw' => by have := class_less (Nat.le_refl _) hw' x (at_ l k); rw [HL.out] at this; exact this) ?_
          simp only [Act.put, List.setIfInBounds_toArray, List.set_cons_succ, List.set_cons_zero]
          refine q_val rfl (fun w' hw' => run_pick (c := .tmp 29) (a := .const (.bool true)) (b := .tmp 35) rfl (t := false) rfl w') ?_
          simp only [Act.put, List.setIfInBounds_toArray, List.set_cons_succ, List.set_cons_zero]
          refine wpQuiet_nil ?_
          intro w5 hw5
          have B5 := Lib.hid (B.out.trans (hw5.mono B.out.size))
          have R5 := Lib.hid (keep_row RX.out hw5)
          have Y1 := Lib.hid ((hw5.cell HAD.out.1).trans HX1.out)
          have Y2 := Lib.hid ((hw5.cell HAD.out.2).trans HX2.out)
          obtain ⟨s1, s2, s3, s4⟩ := at_of_row R5.out
          clear hw5
          go_wp2_with (first | refine l_val rfl (run_at_dueA (x := .tmp 37) (y := .tmp 38) (ad := ad) (i := k) rfl rfl rfl HLT.out _) ?_ | refine l_val rfl (run_load_dueA (x := .tmp 39) (d := at_ l k) rfl rfl Y1.out Y2.out) ?_)
          go_roundw
          case rel => exact ⟨k + 1, at_ l k, by go_num, HLT.out, put_row R5.out (at_ l k), NM.out, B5.out.trans (kept_below (putD_kept w5 M 0 (at_ l k)) B5.out.size (fun y hy => by subst hy; exact HM.out))⟩
          case measure => have := HLT.out; simp [intOf]; omega
    · have hkl : k = l.length := by omega
      subst hkl
      obtain ⟨U, rfl⟩ : ∃ U, U = wr := ⟨_, rfl⟩
      have hMU : M < U.heap.size := row_lt RX.out
      go_wp2_with fail
      refine (new_any U).mono ?_
      rintro e w3 ⟨rfl, hO3, hb3, hs3⟩
      have O3 := Lib.hid hO3
      have B3 := Lib.hid hb3
      have RX3 := Lib.hid (keep_row RX.out hb3)
      obtain ⟨s1, s2, s3, s4⟩ := at_of_row RX3.out
      clear hO3 hb3 hs3 hlt
      go_wp2_with fail
      refine (push_any w3 U.heap.size U.heap.size (.slice none 0 0) [] x O3.out ⟨rfl, .inl ⟨rfl, rfl⟩⟩ B3.out.size hall_nil (by simp)).mono ?_
      rintro e w4 ⟨g4, cap4, l4, rfl, hO4, hR4, hl4, hp4, hA4, hg4, hx4, hK4⟩
      have O4 := Lib.hid hO4
      have W4 := Lib.hid (own_of_row hR4 hg4)
      have P4 := Lib.hid hp4
      have A4 := Lib.hid hA4
      have B4 := Lib.hid (B3.out.trans (kept_below hK4 B3.out.size (fun k hk => by
        rcases hk with e | e
        · omega
        · cases e)))
      clear hO4 hR4 hl4 hp4 hA4 hg4 hx4 hK4 s1 s2 s3 s4
      go_wp2_with fail
      go_loopw [6] (fun i wr => ∃ (k : Nat) (v : Value) (lh : List D), i = .int .i64 k ∧ k ≤ l.length ∧ HObj wr U.heap.size v ∧ wr.ownsRow U.heap.size 30 2 v lh.length (dcells lh) ∧ lh.Perm (x :: l.take k) ∧ HAll lh ∧ Below U.heap.size U wr) (fun i _ => l.length - (intOf i).toNat)
      case atStart => exact ⟨0, _, l4, rfl, Nat.zero_le _, O4.out, W4.out, by simpa using P4.out, A4.out, B4.out⟩
      case round =>
        obtain ⟨k, v, lh, rfl, hk2, hO, hW, hp, hA, hb⟩ := hrel
        have O := Lib.hid hO
        have W := Lib.hid hW
        have PE := Lib.hid hp
        have HA := Lib.hid hA
        have BU := Lib.hid hb
        clear hO hW hp hA hb
        by_cases hlt : k < l.length
        · obtain ⟨ad, rfl, hadB, hcell⟩ := (HR.out.below (B.out.trans (BU.out.mono B.out.size))) (by omega)
          obtain ⟨hx1, hx2⟩ := hcell k hlt
          have HX1 := Lib.hid hx1
          have HX2 := Lib.hid hx2
          have hlhl : lh.length ≤ 1000000 := by have := PE.out.length_eq; rw [List.length_cons, List.length_take] at this; omega
          have PK := Lib.hid (show (at_ l k :: lh).Perm (x :: l.take (k + 1)) by
            have e : l.take (k + 1) = l.take k ++ [at_ l k] := by rw [List.take_add_one, at_some hlt]; rfl
            rw [e]
            exact (PE.out.cons _).trans (List.perm_append_comm (l₁ := [at_ l k]) (l₂ := x :: l.take k)))
          clear hcell hx1 hx2
          go_wp2_with (first | refine l_val rfl (run_at_dueA (x := .tmp 52) (y := .tmp 53) (ad := ad) (i := k) rfl rfl rfl hlt _) ?_ | refine l_val rfl (run_load_dueA (x := .tmp 54) (d := at_ l k) rfl rfl HX1.out HX2.out) ?_)
          refine (push_any _ U.heap.size U.heap.size v lh (at_ l k) O.out W.out BU.out.size HA.out hlhl).mono ?_
          rintro e w5 ⟨g5, cap5, l5, rfl, hO5, hR5, hl5, hp5, hA5, hg5, hx5, hK5⟩
          have O5 := Lib.hid hO5
          have W5 := Lib.hid (own_of_row hR5 hg5)
          have P5 := Lib.hid (hp5.trans PK.out)
          have A5 := Lib.hid hA5
          have B5 := Lib.hid (BU.out.trans (kept_below hK5 BU.out.size (fun k hk => by
            rcases hk with e | e
            · omega
            · exact (own_lt W.out e).2)))
          clear hO5 hR5 hl5 hp5 hA5 hg5 hx5 hK5
          go_wp2_with fail
          go_roundw
          case rel => exact ⟨k + 1, _, l5, by go_num, by omega, O5.out, W5.out, P5.out, A5.out, B5.out⟩
          case measure => simp [intOf]; omega
        · have hkl : k = l.length := by omega
          subst hkl
          rw [List.take_length] at PE
          have START := Lib.hid (show LInv U l x wr.heap.size (.int .i64 0) (.int .i64 0) (wr.alloc (.cells #[.int .i64 0, .int .i64 0] 30)) from
            ⟨0, v, lh, [], (0, 0), rfl, rfl, (Below.heap_alloc wr _ _ (hb_lt O.out)).trans O.out, W.out.alloc _, HA.out, heap_alloc_new wr _, rfl, PE.out, List.Pairwise.nil, fun a ha => by simp at ha, .inl rfl, fun q hq => by have := (own_lt W.out hq).1; omega, BU.out.alloc BU.out.size _⟩)
          obtain ⟨L, hL⟩ : ∃ L, L = wr.heap.size := ⟨_, rfl⟩
          have HLU := Lib.hid (show U.heap.size < L by rw [hL]; exact hb_lt O.out)
          rw [← hL] at START
          clear hlt
          go_wp2_with fail
          rw [← hL]
          clear hL
          go_loopw [8, 9] (fun n i wr => LInv U l x L n i wr) (fun _ i _ => l.length + 1 - (intOf i).toNat)
          case atStart => exact START.out
          case round =>
            obtain ⟨k, v6, rest, done, y, rfl, rfl, hO6, hW6, hA6, hy6, hk6, hp6, hri6, hle6, hdn6, hvb6, hb6⟩ := hrel
            have hlen := hp6.length_eq
            rw [List.length_append, List.length_cons] at hlen
            by_cases hlt : k < l.length + 1
            · have h0 : 0 < rest.length := by omega
              have hki : (k : Int) ≤ (l.length : Int) := by omega
              have hpop := pop_own wr U.heap.size U.heap.size v6 rest hO6 hW6 hA6 h0 (by omega)
              have hz1 : ∀ a ∈ done, less (at_ rest 0) a = false := fun a ha => hle6 a ha _ (at_mem h0)
              have hz2 : ∀ b ∈ rest, less b (at_ rest 0) = false := fun b hb => by
                obtain ⟨j, hj, e⟩ := mem_at hb
                rw [← e]; exact hall_min hA6 j hj
              generalize at_ rest 0 = z at hpop hz1 hz2
              have POP := Lib.hid hpop
              have Z1 := Lib.hid hz1
              have Z2 := Lib.hid hz2
              have YY := Lib.hid hy6
              have VB := Lib.hid hvb6
              have OWN := Lib.hid hW6
              have BU6 := Lib.hid hb6
              have K6 := Lib.hid hk6
              have PP := Lib.hid hp6
              have RI := Lib.hid hri6
              have LE := Lib.hid hle6
              have HLT := Lib.hid hlt
              clear hpop hz1 hz2 hO6 hW6 hA6 hy6 hk6 hp6 hri6 hle6 hdn6 hvb6 hb6 hlen h0 hlt
              go_wp2_with fail
              refine POP.out.mono ?_
              rintro e w7 ⟨v7, l7, rfl, hO7, hW7, hA7, hvb7, hp7, hK7⟩
              have hL7 : w7.heap[L]? = some (.cells #[.int .i64 y.1, .int .i64 y.2] 30 (0, 0)) := (hK7.block L (row_lt YY.out) (fun e => by
                rcases e with e | e
                · have := HLU.out; omega
                · exact VB.out L e rfl)).trans YY.out
              have hLlt := row_lt hL7
              obtain ⟨s1, s2, s3, s4⟩ := at_of_row hL7
              have NEXT := Lib.hid (show LInv U l x L (.int .i64 ((k : Int) + 1)) (.int .i64 ((k : Int) + 1)) ((putD w7 L 0 z).alloc (.cells #[.int .i64 z.1, .int .i64 z.2] 30)) from
                ⟨k + 1, v7, l7, done ++ [z], z, by go_num, by go_num, (Below.heap_alloc _ _ _ (by rw [putD_size]; exact hb_lt hO7)).trans ((putD_other w7 L 0 z _ (by have := HLU.out; omega)).trans hO7),
                  (own_row hW7 (fun q hq => putD_other w7 L 0 z q (by rw [hvb7] at hq; exact VB.out q hq))).alloc _, hA7,
                  (Below.heap_alloc _ _ _ (by rw [putD_size]; exact hLlt)).trans (put_row hL7 z), by rw [List.length_append, List.length_singleton, K6.out],
                  by rw [List.append_assoc]; exact (hp7.symm.append_left done).trans PP.out,
                  List.pairwise_append.2 ⟨RI.out, List.pairwise_singleton _ _, fun a ha b hb => by rw [List.mem_singleton] at hb; subst hb; exact Z1.out a ha⟩,
                  fun a ha b hb => by
                    rcases List.mem_append.1 ha with ha | ha
                    · exact LE.out a ha b (hp7.mem_iff.2 (List.mem_cons_of_mem _ hb))
                    · rw [List.mem_singleton] at ha; subst ha; exact Z2.out b (hp7.mem_iff.2 (List.mem_cons_of_mem _ hb)),
                  .inr ⟨done, rfl⟩, fun q hq => VB.out q (by rw [← hvb7]; exact hq),
                  ((BU6.out.trans (kept_below hK7 BU6.out.size (fun q hq => by
                    rcases hq with e | e
                    · omega
                    · exact (own_lt OWN.out e).2))).trans (kept_below (putD_kept w7 L 0 z) (by have := BU6.out.size; have := hK7.size; omega) (fun q hq => by subst hq; have := HLU.out; omega))).alloc (by rw [putD_size]; have := BU6.out.size; have := hK7.size; omega) _⟩)
              clear hO7 hW7 hA7 hvb7 hp7 hK7 hL7
              unfold dv
              go_wp2_with fail
              go_roundw
              case rel => exact NEXT.out
              case measure => have := HLT.out; simp [intOf]; omega
            · have hr0 : rest = [] := List.eq_nil_of_length_eq_zero (by
                have := hk6
                have h5 := hp6.length_eq
                rw [List.length_append, List.length_cons] at h5
                have : done.length ≤ l.length + 1 := by omega
                omega)
              subst hr0
              have hkk : k = l.length + 1 := by simp at hlen; omega
              have hyx : x = y := by
                rcases hdn6 with e | ⟨d, e⟩
                · rw [e] at hk6; simp at hk6; omega
                · subst e
                  rw [List.append_nil] at hp6
                  have h1 : x ∈ d ++ [y] := hp6.mem_iff.2 (by simp)
                  have h2 : y ∈ x :: l := hp6.mem_iff.1 (by simp)
                  have h3 : less y x = false := by
                    rcases List.mem_append.1 h1 with h | h
                    · exact (List.pairwise_append.1 hri6).2.2 x h y (by simp)
                    · rw [List.mem_singleton] at h; rw [h]; exact less_irrefl _
                  have h4 : less x y = false := by
                    rcases List.mem_cons.1 h2 with h | h
                    · rw [h]; exact less_irrefl _
                    · obtain ⟨j, hj, e⟩ := mem_at h
                      rw [← e]; exact MX.out j hj
                  exact less_total h4 h3
              rw [← hyx] at hy6
              obtain ⟨s1, s2, _, _⟩ := at_of_row hy6
              obtain ⟨m1, m2, _, _⟩ := at_of_row ((hb6.block M hMU).trans RX.out)
              have hki : ¬ (k : Int) ≤ (l.length : Int) := by omega
              have hkn : ((k : Int) == (l.length : Int) + 1) = true := by rw [beq_iff_eq]; omega
              obtain ⟨a9, c9, rfl⟩ := own_slice hW6
              have OO := Lib.hid hO6
              have BB := Lib.hid (B.out.trans (hb6.mono B.out.size))
              clear hO6 hW6 hA6 hy6 hk6 hp6 hri6 hle6 hdn6 hvb6 hb6 hlen hlt hyx
              go_wp2_with fail
              refine (len_any wr U.heap.size a9 _ c9 OO.out).mono ?_
              rintro e w7 ⟨rfl, rfl⟩
              go_wp2
              go_ret
              exact ⟨rfl, BB.out⟩

set_option maxRecDepth 100000 in
set_option maxHeartbeats 1000000 in
theorem last_long (w : World) (A : Option Addr) (c : Nat) (l : List D) (hm : l.length ≤ maxLen) (h : 200 < l.length) :
    Calls Try.prog 5 #[.slice A l.length c] w fun e w' => e = .returned (.bool true) ∧ Below w.heap.size w w' := by
  unfold maxLen at hm
  have g1 : decide ((200 : Int) < (l.length : Int)) = true := decide_eq_true (by omega)
  go_enter Try.func5, Try.ntmps5
  go_wp2_with fail
  refine (awake_any _).mono ?_
  rintro e w1 ⟨rfl, hb1⟩
  go_wp2_with fail
  refine (awake_any _).mono ?_
  rintro e w2 ⟨rfl, hb2⟩
  go_wp2
  go_ret
  exact ⟨rfl, hb1.trans (hb2.mono hb1.size)⟩

theorem walk_heapLast (w : World) (A : Option Addr) (c : Nat) (l : List D) (hm : l.length ≤ maxLen) (hr : DReads w w.heap.size A l) :
    Calls Try.prog 5 #[.slice A l.length c] w fun e w' => e = .returned (.bool true) ∧ Below w.heap.size w w' := by
  by_cases h : 200 < l.length
  · exact last_long w A c l hm h
  · exact last_run w A c l hr (by omega)

set_option maxRecDepth 100000 in
theorem heapLast_lifted (os : Os) (started : os.Started) (H : Type) (enc : TypeId × Value → H) :
    ReturnsInHanded {} Try.checked os 5 .any (Rows.heapLastSpec.pre6 enc Try.prog Try.f5 Rows.heapLastRow.domain false) (Rows.heapLastSpec.post enc Try.prog Try.f5 false true false false) := by
  refine returnsInHanded_of_change (C := Try.checked) own started (by kernel_rfl) Try.func5
    (ChangeSpec.witness6 (enc := enc) (C := Try.checked) false ⟨#[], #[.slice none 0 0], []⟩ 8 (by kernel_rfl) (by kernel_rfl) (by kernel_rfl) (by kernel_rfl)) ?_
  intro W base args ds gs before hval0 hW hcnd hsz
  have hval : ∀ (j : Nat) t v, Try.f5.params[j]? = some t → args[j]? = some v → Value.okWide Try.prog W .any base t v := hval0
  have hW' := hW
  obtain ⟨p, q, hA0, hV, rfl, hfz, hnd⟩ := hW
  have hA : DataW.TrodAll enc Try.prog W 0 (fun _ => true) true Try.f5.params.toList args.toList ds p := hA0
  rw [Try.params5] at hA hval
  obtain ⟨v0, vs0, d0, ds0, p0, q0, hargs, rfl, rfl, h0, r0⟩ := trodAll_cons hA
  obtain ⟨rfl, rfl, rfl⟩ := trodAll_nil r0
  obtain rfl : args = #[v0] := by cases args; simp_all
  obtain ⟨rfl, rfl⟩ := trodVars_none hV
  have k0 := h0
  have lt0 : ∀ x ∈ p0, x.block < W.heap.size := by obtain ⟨m, hm⟩ := k0; exact DataW.trod_lt m _ _ _ hm
  obtain ⟨A0, c0, l0, rfl, hm0, hr0⟩ := open_dues (hval 0 39 v0 rfl rfl) h0
  clear hA0 hval0
  refine (walk_heapLast W A0 c0 l0 hm0 hr0).mono fun e W' ⟨he, bel⟩ => ?_
  subst he
  exact ⟨_, rfl, _, _, _, [], _, [], hW', trodAll_mk1 (shut_bool Try.underlying4 _), (trodAll_cons_mk (Below.trod laidOut (by kernel_rfl) (of_decide_eq_true (by kernel_rfl)) k0 bel lt0) trodAll_mk0), rfl, bel.frame _, fun h => by cases h⟩

theorem heapLast_holds : Rows.HeapLastSaid :=
  OpenClaim.holds_of_wide 5 Try.f5 rfl rfl rfl rfl rfl rfl rfl ⟨rfl, rfl, rfl, rfl, rfl⟩ rfl rfl rfl rfl rfl (by kernel_rfl) Try.func5 (by kernel_rfl)
    (of_decide_eq_true (by kernel_rfl)) (by unfold Func.isWrapper; first | (rw [if_pos (by decide +kernel)]; kernel_rfl) | (rw [if_neg (by decide +kernel)]; exact ⟨rfl, rfl⟩))
    (fun os started H enc _ => heapLast_lifted os started H enc)

#print axioms heapLast_holds
end Go.Proofs.Ytcmbmocineegoaa
