/-
  The superblock in a sector. super.Switch.
  Conditions: none.
-/
import Derived.Test.YtnlolhlbpdmljaaGreatDoorSupD
namespace Go.Proofs.YtnlolhlbpdmljaaGreatDoor
open Go.ChangeShapes Go.WideShapes Go.RowKit

abbrev SupT := Nat × Nat × List Nat
def svT (s : SupT) : Array Value := sv s.1 s.2.1 s.2.2
def zT : SupT := (0, 0, E30)
/-- The sector i reads as the superblock s, or was never written. -/
def SecAt (V : Nat → B8) (i : Nat) (s : SupT) : Prop := (s = zT ∧ V i = zeros 128) ∨ (SOk s.1 s.2.1 s.2.2 ∧ V i = laidP 1 (slay s.1 s.2.1 s.2.2))
theorem SecAt.set {V : Nat → B8} {i : Nat} {s : SupT} (h : SecAt V i s) : Set30 s.2.2 := by
  rcases h with ⟨rfl, _⟩ | ⟨h, _⟩
  · exact E30_set
  · exact h.set
theorem SecAt.gen {V : Nat → B8} {i : Nat} {s : SupT} (h : SecAt V i s) : s.1 < 4294967296 := by
  rcases h with ⟨rfl, _⟩ | ⟨h, _⟩
  · show 0 < _; omega
  · exact h.gen
theorem svT_size {s : SupT} (h : Set30 s.2.2) : (svT s).size = 32 := sv_size h
theorem frameTag_eq (w : World) (g : Nat) (n : Int) (h : ErrAt w g frameTag n) : ErrAt w g frameTag n := h
set_option maxRecDepth 100000 in
set_option maxHeartbeats 2000000 in
theorem sat_any {w : World} {B d : Nat} {V : Nat → B8} {n : Nat} (h : Dsk w B d V n) (i : Nat) (hi : i < 240) (s : SupT) (hs : SecAt V i s) :
    Calls Tryz.prog 33 #[.pointer (some ⟨d, 0, none⟩), .int .i64 (i : Int)] w fun e w' => e = .returned (.tuple #[.agg (svT s), .nilIface]) ∧ Below w.heap.size w w' := by
  obtain ⟨R, hR⟩ : ∃ R, R = w.heap.size := ⟨_, rfl⟩
  obtain ⟨W1, hW1⟩ : ∃ W, W = w.alloc (.cells L52 52) := ⟨_, rfl⟩
  have b1 : Below w.heap.size w W1 := by rw [hW1]; exact (Below.refl _ _).alloc (Nat.le_refl _) _
  have R1 := Lib.hid (show W1.heap[R]? = some (.cells (sv 0 0 E30) 52 (0, 0)) by rw [hW1, hR, ← L52_eq]; exact heap_alloc_new _ _)
  have B1 := Lib.hid b1
  have HR := Lib.hid hR
  have HW1 := Lib.hid hW1
  have D1 := Lib.hid (h.below b1)
  have SV32 := Lib.hid (svT_size hs.set)
  have HU := Lib.hid hs.set
  have Z32 := Lib.hid (sv_size (gen := 0) (root := 0) E30_set)
  rcases hs with ⟨rfl, hv⟩ | ⟨hok, hv⟩
  · have LD := Lib.hid (loadZ D1.out i 1 hi hv)
    clear h hR hW1 b1 hv
    go_enter Tryz.func33, Tryz.ntmps33
    go_upto_region 1 with fail
    rw [← HW1.out, ← HR.out]
    go_wp2_with fail
    refine LD.out.mono ?_
    rintro e w2 ⟨g, rfl, he2, hb2⟩
    have E2 := Lib.hid he2
    have R2 := Lib.hid ((hb2.block R (row_lt R1.out)).trans R1.out)
    have B2 := Lib.hid (B1.out.trans (hb2.mono B1.out.size))
    clear he2 hb2
    go_wp2_with fail
    refine (same_tag g frameTag 3 7 w2 E2.out).mono ?_
    rintro e w3 ⟨rfl, rfl⟩
    go_wp2_with (refine wpList_store_row rfl 52 (.tmp 4) (.tmp 24) rfl R (sv 0 0 E30) rfl rfl 52 (sv 0 0 E30) R2.out (by rw [Z32.out]; exact size52) rfl (sv_one _ _ _) ?_)
    exact bodyPost_ret (results_sup rfl _ _ R 52 (sv 0 0 E30) (0, 0) .nilIface rfl (setRow_has R2.out) Z32.out rfl) rfl ⟨rfl, below_setRow B2.out (by rw [HR.out]; exact Nat.le_refl _) _⟩
  · have LD := Lib.hid (loadD D1.out i 1 _ hi (by omega) (by omega) (by rw [slay_length hok.set]; omega) hv)
    have RD := Lib.hid (fun w => sread_any s.1 s.2.1 s.2.2 hok w)
    clear h hR hW1 b1 hv hok
    go_enter Tryz.func33, Tryz.ntmps33
    go_upto_region 1 with fail
    rw [← HW1.out, ← HR.out]
    go_wp2_with fail
    refine LD.out.mono ?_
    rintro e w2 ⟨rfl, hb2⟩
    have R2 := Lib.hid ((hb2.block R (row_lt R1.out)).trans R1.out)
    have B2 := Lib.hid (B1.out.trans (hb2.mono B1.out.size))
    clear hb2
    go_wp2_with fail
    refine (same_nil 7 w2).mono ?_
    rintro e w3 ⟨rfl, rfl⟩
    go_wp2_with fail
    refine (RD.out _).mono ?_
    rintro e w4 ⟨rfl, hb4⟩
    have R4 := Lib.hid ((hb4.block R (row_lt R2.out)).trans R2.out)
    have B4 := Lib.hid (B2.out.trans (hb4.mono B2.out.size))
    clear hb4
    obtain ⟨X, hX⟩ : ∃ X, X = w4.heap.size := ⟨_, rfl⟩
    obtain ⟨W5, hW5⟩ : ∃ W, W = w4.alloc (.cells L52 52) := ⟨_, rfl⟩
    obtain ⟨W6, hW6⟩ : ∃ W, W = W5.setRow X (svT s) := ⟨_, rfl⟩
    have x5 : W5.heap[X]? = some (.cells (sv 0 0 E30) 52 (0, 0)) := by rw [hW5, hX, ← L52_eq]; exact heap_alloc_new _ _
    have X5 := Lib.hid x5
    have X6 := Lib.hid (show W6.heap[X]? = some (.cells (svT s) 52 (0, 0)) by rw [hW6]; exact setRow_has x5)
    have b6 : Below w4.heap.size w4 W6 := by rw [hW6, hW5]; exact below_setRow ((Below.refl _ _).alloc (Nat.le_refl _) _) (by rw [hX]; exact Nat.le_refl _) _
    have R6 := Lib.hid ((b6.block R (row_lt R4.out)).trans R4.out)
    have B6 := Lib.hid (B4.out.trans (b6.mono B4.out.size))
    have HX := Lib.hid hX
    have HW5 := Lib.hid hW5
    have HW6 := Lib.hid hW6.symm
    clear hX hW5 hW6 x5 b6
    go_upto_region 7 with (rw [← HW5.out, ← HX.out]; refine wpList_store_row rfl 52 (.tmp 8) (.tmp 28) rfl X (svT s) rfl rfl 52 (sv 0 0 E30) X5.out (by rw [SV32.out]; exact size52) (by rw [SV32.out, Z32.out]) (sv_one _ _ _) ?_; rw [HW6.out])
    refine wp_region_lit ?_
    refine l_is (.load 52 (.tmp 8)) rfl rfl (run_ld_sup (x := .tmp 8) rfl rfl HU.out X6.out) ?_
    refine wpList_store_row rfl 52 (.tmp 4) (.tmp 30) rfl R (svT s) rfl rfl 52 (sv 0 0 E30) R6.out (by rw [SV32.out]; exact size52) (by rw [SV32.out, Z32.out]) (sv_one _ _ _) ?_
    go_wp2_with fail
    exact bodyPost_ret (results_sup rfl _ _ R 52 (svT s) (0, 0) .nilIface rfl (setRow_has R6.out) SV32.out rfl) rfl ⟨rfl, below_setRow B6.out (by rw [HR.out]; exact Nat.le_refl _) _⟩
/-- The better of two. -/
def better (a b : SupT) : SupT := if a.1 < b.1 then b else a
def bstT (s0 s1 : SupT) : Nat → SupT
  | 0 => zT
  | 1 => better zT s0
  | _ => better (better zT s0) s1
theorem better_z {V : Nat → B8} {i : Nat} {s : SupT} (h : SecAt V i s) : better zT s = s := by
  rcases h with ⟨rfl, _⟩ | ⟨h, _⟩
  · rfl
  · unfold better
    rw [if_pos (show zT.1 < s.1 from h.pos)]
def superTag : ByteArray := { data := #[115, 117, 112, 101, 114] }
set_option maxRecDepth 100000 in
set_option maxHeartbeats 2000000 in
theorem best_any {w : World} {B d : Nat} {V : Nat → B8} {n : Nat} (h : Dsk w B d V n) (s0 s1 : SupT) (h0 : SecAt V 0 s0) (h1 : SecAt V 1 s1) :
    Calls Tryz.prog 14 #[.pointer (some ⟨d, 0, none⟩)] w fun e w' => (if (better s0 s1).1 = 0 then ∃ g, e = .returned (.tuple #[.agg (sv 0 0 E30), .iface 102 (.pointer (some ⟨g, 0, none⟩))]) ∧ ErrAt w' g superTag 4 else e = .returned (.tuple #[.agg (svT (better s0 s1)), .nilIface])) ∧ Below w.heap.size w w' := by
  obtain ⟨R, hR⟩ : ∃ R, R = w.heap.size := ⟨_, rfl⟩
  obtain ⟨W1, hW1⟩ : ∃ W, W = w.alloc (.cells L52 52) := ⟨_, rfl⟩
  have b1 : Below w.heap.size w W1 := by rw [hW1]; exact (Below.refl _ _).alloc (Nat.le_refl _) _
  have R1 := Lib.hid (show W1.heap[R]? = some (.cells (sv 0 0 E30) 52 (0, 0)) by rw [hW1, hR, ← L52_eq]; exact heap_alloc_new _ _)
  obtain ⟨X, hX⟩ : ∃ X, X = W1.heap.size := ⟨_, rfl⟩
  obtain ⟨W2, hW2⟩ : ∃ W, W = W1.alloc (.cells L52 52) := ⟨_, rfl⟩
  have b2 : Below W1.heap.size W1 W2 := by rw [hW2]; exact (Below.refl _ _).alloc (Nat.le_refl _) _
  have R2 := Lib.hid ((b2.block R (row_lt R1.out)).trans R1.out)
  have X2 := Lib.hid (show W2.heap[X]? = some (.cells (svT zT) 52 (0, 0)) by rw [hW2, hX]; have e : svT zT = L52 := L52_eq.symm; rw [e]; exact heap_alloc_new _ _)
  have B2 := Lib.hid (b1.trans (b2.mono b1.size))
  have D1 := Lib.hid (h.below b1)
  have B12 := Lib.hid b2
  have SIZE := Lib.hid (sizeD D1.out)
  have RX := Lib.hid (show R ≠ X by have := row_lt R1.out; omega)
  have XG := Lib.hid (show w.heap.size ≤ X by rw [hX]; exact b1.size)
  have HR := Lib.hid hR
  have HW1 := Lib.hid hW1
  have HX := Lib.hid hX
  have HW2 := Lib.hid hW2
  have Z32 := Lib.hid (sv_size (gen := 0) (root := 0) E30_set)
  have H0 := Lib.hid h0
  have H1 := Lib.hid h1
  have BU := Lib.hid (show ∀ k, k ≤ 2 → Set30 (bstT s0 s1 k).2.2 by
    intro k hk
    have hz := better_z h0
    match k, hk with
    | 0, _ => exact E30_set
    | 1, _ => show Set30 (better zT s0).2.2; rw [hz]; exact h0.set
    | 2, _ =>
      show Set30 (better (better zT s0) s1).2.2
      rw [hz]
      unfold better
      split
      · exact h1.set
      · exact h0.set)
  have BS := Lib.hid (show ∀ k, k < 2 → ∃ s, SecAt V k s ∧ bstT s0 s1 (k + 1) = better (bstT s0 s1 k) s from by
    intro k hk
    match k, hk with
    | 0, _ => exact ⟨s0, h0, rfl⟩
    | 1, _ => exact ⟨s1, h1, rfl⟩)
  have BE := Lib.hid (show bstT s0 s1 2 = better s0 s1 by show better (better zT s0) s1 = _; rw [better_z h0])
  obtain ⟨b, hbb⟩ : ∃ b, b = better s0 s1 := ⟨_, rfl⟩
  rw [← hbb]
  have HBB := Lib.hid (show bstT s0 s1 2 = b by rw [hbb]; exact BE.out)
  clear h h0 h1 hR hW1 hX hW2 b1 b2 hbb BE
  go_enter Tryz.func14, Tryz.ntmps14
  go_upto_region 1 with fail
  rw [← HW1.out, ← HR.out]
  go_wp2_with fail
  refine SIZE.out.mono ?_
  rintro e w1 ⟨rfl, rfl⟩
  go_upto_region 4 with fail
  rw [← HW2.out, ← HX.out]
  go_wp2_with fail
  go_loopw [14] (fun i' wr => ∃ k : Nat, i' = .int .i64 k ∧ k ≤ 2 ∧ wr.heap[X]? = some (.cells (svT (bstT s0 s1 k)) 52 (0, 0)) ∧ Below X W2 wr) (fun i' _ => 2 - (intOf i').toNat)
  case atStart => exact ⟨0, rfl, by omega, X2.out, Below.refl _ _⟩
  case round =>
    obtain ⟨k, rfl, hk, hx, hb⟩ := hrel
    have XX := Lib.hid hx
    have BX := Lib.hid hb
    clear hx hb
    by_cases hlt : k < 2
    · obtain ⟨s, hs, hbn⟩ := BS.out k hlt
      obtain ⟨b, hbb⟩ : ∃ b, b = bstT s0 s1 k := ⟨_, rfl⟩
      rw [← hbb] at hbn
      have SU := Lib.hid hs.set
      have S32 := Lib.hid (svT_size hs.set)
      have BB32 := Lib.hid (show (svT b).size = 32 from svT_size (by rw [hbb]; exact BU.out k (by omega)))
      have XX' := Lib.hid (show wr.heap[X]? = some (.cells (svT b) 52 (0, 0)) by rw [hbb]; exact XX.out)
      have BW := Lib.hid (show Below W1.heap.size W1 wr from B12.out.trans (by rw [← HX.out]; exact BX.out))
      have SAT := Lib.hid (sat_any (D1.out.below BW.out) k (by omega) s hs)
      have HBN := Lib.hid hbn
      have HLT := Lib.hid hlt
      clear hs hbn hbb
      go_wp2_with fail
      refine SAT.out.mono ?_
      rintro e w4 ⟨rfl, hb4⟩
      obtain ⟨Y, hY⟩ : ∃ Y, Y = w4.heap.size := ⟨_, rfl⟩
      obtain ⟨W5, hW5⟩ : ∃ W, W = w4.alloc (.cells L52 52) := ⟨_, rfl⟩
      obtain ⟨W6, hW6⟩ : ∃ W, W = W5.setRow Y (svT s) := ⟨_, rfl⟩
      have y5 : W5.heap[Y]? = some (.cells (sv 0 0 E30) 52 (0, 0)) := by rw [hW5, hY, ← L52_eq]; exact heap_alloc_new _ _
      have Y5 := Lib.hid y5
      have y6 : W6.heap[Y]? = some (.cells (svT s) 52 (0, 0)) := by rw [hW6]; exact setRow_has y5
      have Y6 := Lib.hid y6
      have b6 : Below w4.heap.size w4 W6 := by rw [hW6, hW5]; exact below_setRow ((Below.refl _ _).alloc (Nat.le_refl _) _) (by rw [hY]; exact Nat.le_refl _) _
      have b46 : Below wr.heap.size wr W6 := hb4.trans (b6.mono hb4.size)
      have x6 : W6.heap[X]? = some (.cells (svT b) 52 (0, 0)) := (b46.block X (row_lt XX'.out)).trans XX'.out
      have X6 := Lib.hid x6
      have BX6 := Lib.hid (BX.out.trans (b46.mono (Nat.le_of_lt (row_lt XX'.out))))
      have cy : W6.cell? ⟨Y, 0, none⟩ = some (.int .u32 (s.1 : Int)) := cell_of_row W6 Y 0 _ 52 (0, 0) y6
      have cx : W6.cell? ⟨X, 0, none⟩ = some (.int .u32 (b.1 : Int)) := cell_of_row W6 X 0 _ 52 (0, 0) x6
      have HY := Lib.hid hY
      have HW5 := Lib.hid hW5
      have HW6 := Lib.hid hW6.symm
      clear hY hW5 hW6 y5 y6 x6 b6 b46 hb4 hlt
      by_cases hg : b.1 < s.1
      · have NE := Lib.hid (show bstT s0 s1 (k + 1) = s by rw [HBN.out]; unfold better; rw [if_pos hg])
        go_upto_region 11 with (rw [← HW5.out, ← HY.out]; refine wpList_store_row rfl 52 (.tmp 6) (.tmp 21) rfl Y (svT s) rfl rfl 52 (sv 0 0 E30) Y5.out (by rw [S32.out]; exact size52) (by rw [S32.out, Z32.out]) (sv_one _ _ _) ?_; rw [HW6.out])
        refine wp_region_lit ?_
        refine l_is (.load 52 (.tmp 6)) rfl rfl (run_ld_sup (x := .tmp 6) rfl rfl SU.out Y6.out) ?_
        refine wpList_store_row rfl 52 (.tmp 4) (.tmp 32) rfl X (svT s) rfl rfl 52 (svT b) X6.out (by rw [S32.out]; exact size52) (by rw [BB32.out, S32.out]) (sv_one _ _ _) ?_
        have NX := Lib.hid (show (W6.setRow X (svT s)).heap[X]? = some (.cells (svT s) 52 (0, 0)) from setRow_has X6.out)
        have NB := Lib.hid (show Below X W2 (W6.setRow X (svT s)) from below_setRow BX6.out (Nat.le_refl _) _)
        go_wp2_with fail
        go_roundw
        case rel => exact ⟨k + 1, by go_num, HLT.out, by rw [NE.out]; exact NX.out, NB.out⟩
        case measure => have := HLT.out; simp [intOf]; omega
      · have NE := Lib.hid (show bstT s0 s1 (k + 1) = b by rw [HBN.out]; unfold better; rw [if_neg hg])
        go_wp2_with (rw [← HW5.out, ← HY.out]; refine wpList_store_row rfl 52 (.tmp 6) (.tmp 21) rfl Y (svT s) rfl rfl 52 (sv 0 0 E30) Y5.out (by rw [S32.out]; exact size52) (by rw [S32.out, Z32.out]) (sv_one _ _ _) ?_; rw [HW6.out])
        go_roundw
        case rel => exact ⟨k + 1, by go_num, HLT.out, by rw [NE.out]; exact X6.out, BX6.out⟩
        case measure => have := HLT.out; simp [intOf]; omega
    · have hkl : k = 2 := by omega
      subst hkl
      have hbb := HBB.out.symm
      have hbu : Set30 b.2.2 := by rw [hbb]; exact BU.out 2 (Nat.le_refl _)
      have xx : wr.heap[X]? = some (.cells (svT b) 52 (0, 0)) := by rw [hbb]; exact XX.out
      have X6 := Lib.hid xx
      have R6 := Lib.hid ((BX.out.block R (by have h1 := row_lt R1.out; rw [HX.out]; exact h1)).trans R2.out)
      have BB := Lib.hid (B2.out.trans (BX.out.mono XG.out))
      have B32 := Lib.hid (svT_size hbu)
      have SU := Lib.hid hbu
      have cx : wr.cell? ⟨X, 0, none⟩ = some (.int .u32 (b.1 : Int)) := cell_of_row wr X 0 _ 52 (0, 0) xx
      clear hbb hbu xx
      by_cases hz : b.1 = 0
      · have HZ := Lib.hid hz
        have hzz : ((b.1 : Int) == 0) = true := by rw [beq_iff_eq]; omega
        go_wp2_with fail
        refine (tag_any _ _ _).mono ?_
        rintro e w7 ⟨rfl, he7, hb7⟩
        have E7 := Lib.hid he7
        have R7 := Lib.hid ((hb7.block R (row_lt R6.out)).trans R6.out)
        have B7 := Lib.hid (BB.out.trans (hb7.mono BB.out.size))
        have GL := Lib.hid (Nat.lt_of_lt_of_le (row_lt R6.out) (Nat.le_refl wr.heap.size))
        clear he7 hb7
        go_wp2_with (refine wpList_store_row rfl 52 (.tmp 2) (.tmp 37) rfl R (sv 0 0 E30) rfl rfl 52 (sv 0 0 E30) R7.out (by rw [Z32.out]; exact size52) rfl (sv_one _ _ _) ?_)
        exact bodyPost_ret (results_sup rfl _ _ R 52 (sv 0 0 E30) (0, 0) (.iface 102 (.pointer (some ⟨wr.heap.size, 0, none⟩))) rfl (setRow_has R7.out) Z32.out rfl) rfl ⟨⟨_, rfl, (setRow_other _ _ _ _ (by have := GL.out; omega)).trans E7.out⟩, below_setRow B7.out (by rw [HR.out]; exact Nat.le_refl _) _⟩
      · have HZ := Lib.hid hz
        have hzz : ((b.1 : Int) == 0) = false := by rw [beq_eq_false_iff_ne]; omega
        go_upto_region 15 with fail
        refine wp_region_lit ?_
        refine l_is (.load 52 (.tmp 4)) rfl rfl (run_ld_sup (x := .tmp 4) rfl rfl SU.out X6.out) ?_
        refine wpList_store_row rfl 52 (.tmp 2) (.tmp 40) rfl R (svT b) rfl rfl 52 (sv 0 0 E30) R6.out (by rw [B32.out]; exact size52) (by rw [B32.out, Z32.out]) (sv_one _ _ _) ?_
        go_wp2_with fail
        exact bodyPost_ret (results_sup rfl _ _ R 52 (svT b) (0, 0) .nilIface rfl (setRow_has R6.out) B32.out rfl) rfl ⟨rfl, below_setRow BB.out (by rw [HR.out]; exact Nat.le_refl _) _⟩
end Go.Proofs.YtnlolhlbpdmljaaGreatDoor
namespace Go.Proofs.YtnlolhlbpdmljaaGreatDoor
open Go.ChangeShapes Go.WideShapes Go.RowKit
set_option maxRecDepth 100000 in
set_option maxHeartbeats 2000000 in
theorem switch_any {w : World} {B d : Nat} {V : Nat → B8} {n : Nat} (h : Dsk w B d V n) (s : SupT) (hs : SOk s.1 s.2.1 s.2.2) :
    Calls Tryz.prog 21 #[.pointer (some ⟨d, 0, none⟩), .agg (svT s)] w fun e w' => e = .returned .nilIface ∧ Dsk w' B d (upd V (s.1 % 2) (laidP 1 (slay s.1 s.2.1 s.2.2))) 0 ∧ KT B isDisk w w' := by
  obtain ⟨S, hS⟩ : ∃ S, S = w.heap.size := ⟨_, rfl⟩
  obtain ⟨W1, hW1⟩ : ∃ W, W = w.alloc (.cells (svT s) 52) := ⟨_, rfl⟩
  have b1 : Below w.heap.size w W1 := by rw [hW1]; exact (Below.refl _ _).alloc (Nat.le_refl _) _
  have S1 := Lib.hid (show W1.heap[S]? = some (.cells (svT s) 52 (0, 0)) by rw [hW1, hS]; exact heap_alloc_new _ _)
  have B1 := Lib.hid b1
  have HS := Lib.hid hS
  have HW1 := Lib.hid hW1
  have D0 := Lib.hid h
  have SU := Lib.hid hs.set
  have SLAY := Lib.hid (fun w => slay_any s.1 s.2.1 s.2.2 hs w)
  have SLL := Lib.hid (slay_length (gen := s.1) (root := s.2.1) hs.set)
  have hgl := hs.gen
  have hw : IntKind.i64.wrap ((s.1 % 2 : Nat) : Int) = ((s.1 % 2 : Nat) : Int) := by rw [IntKind.wrap_i64]; omega
  have H2 := Lib.hid (show s.1 % 2 < 240 by omega)
  clear h hS hW1 b1 hs
  go_enter Tryz.func21, Tryz.ntmps21
  go_upto_region 1 with fail
  rw [← HW1.out, ← HS.out]
  refine wp_region_lit ?_
  refine l_is (.load 52 (.tmp 3)) rfl rfl (run_ld_sup (x := .tmp 3) rfl rfl SU.out S1.out) ?_
  go_wp2_with fail
  refine (SLAY.out _).mono ?_
  rintro e w2 ⟨rfl, hb2⟩
  have b12 := B1.out.trans (hb2.mono B1.out.size)
  have B2 := Lib.hid b12
  have D2 := Lib.hid (D0.out.below b12)
  have S2 := Lib.hid ((hb2.block S (row_lt S1.out)).trans S1.out)
  clear hb2 b12
  go_wp2_with fail
  refine (flushD D2.out).mono ?_
  rintro e w3 ⟨rfl, hd3, hk3⟩
  have D3 := Lib.hid hd3
  have K3 := Lib.hid ((KT.of_below B2.out B isDisk).trans hk3)
  have s3 := hk3.cells S2.out rfl
  have cs : w3.cell? ⟨S, 0, none⟩ = some (.int .u32 (s.1 : Int)) := cell_of_row w3 S 0 _ 52 (0, 0) s3
  clear hd3 hk3 s3
  have ST := Lib.hid (storeD D3.out (s.1 % 2) 1 _ H2.out (by omega) (by omega) (by rw [SLL.out]; omega) (by omega))
  rw [show ((s.1 % 2 : Nat) : Int) = (s.1 : Int) % 2 by omega] at ST
  go_wp2_with fail
  refine ST.out.mono ?_
  rintro e w4 ⟨rfl, hd4, hk4⟩
  have D4 := Lib.hid hd4
  have K4 := Lib.hid (K3.out.trans hk4)
  clear hd4 hk4
  go_wp2_with fail
  refine (flushD D4.out).mono ?_
  rintro e w5 ⟨rfl, hd5, hk5⟩
  have D5 := Lib.hid hd5
  have K5 := Lib.hid (K4.out.trans hk5)
  clear hd5 hk5
  go_wp2_with fail
  go_ret
  exact ⟨rfl, D5.out, K5.out⟩
end Go.Proofs.YtnlolhlbpdmljaaGreatDoor
