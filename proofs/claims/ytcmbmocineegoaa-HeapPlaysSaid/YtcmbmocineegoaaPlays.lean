/-
  Pushes, and pops in between, answer what the document says: HeapPlays answers true at every list of pairs and every list of truths, and writes nothing that was there.
  Conditions: none.
-/
import Derived.Test.YtcmbmocineegoaaPlaysA
namespace Go.Proofs.Ytcmbmocineegoaa
open Go.ChangeShapes Go.WideShapes Go.ChangeAt Go.RowKit

theorem pair_cell {W w : World} {g : Nat} {x : D} (h : W.heap[g]? = some (.cells #[.int .i64 x.1, .int .i64 x.2] 30 (0, 0))) (hb : Below W.heap.size W w) : w.cell? ⟨g, 0, none⟩ = some (.int .i64 x.1) ∧ w.cell? ((⟨g, 0, none⟩ : Addr).add 1) = some (.int .i64 x.2) := by
  have h2 := (hb.block g (row_lt h)).trans h
  have ha : (⟨g, 0, none⟩ : Addr).add 1 = ⟨g, 1, none⟩ := by unfold Addr.add; simp
  rw [ha]
  exact ⟨cell_of_row w g 0 _ 30 (0, 0) h2, cell_of_row w g 1 _ 30 (0, 0) h2⟩
theorem reads_one {w : World} {g : Nat} {x : D} (h : w.heap[g]? = some (.cells #[.int .i64 x.1, .int .i64 x.2] 29 (0, 0))) : Reads w w.heap.size 2 (some ⟨g, 0, none⟩) 1 [.int .i64 x.1, .int .i64 x.2] := by
  refine ⟨rfl, fun _ => ⟨_, rfl, row_lt h, fun j u hj => ?_⟩⟩
  have ha : ∀ j, (⟨g, 0, none⟩ : Addr).add j = ⟨g, j, none⟩ := fun j => by unfold Addr.add; split <;> simp_all
  rw [ha, cell_of_row w g j _ 29 (0, 0) h, ← hj]
  rcases j with _ | _ | j <;> rfl

set_option maxRecDepth 100000 in
set_option maxHeartbeats 2000000 in
theorem plays_run (w : World) (A : Option Addr) (c : Nat) (l : List D) (hr : DReads w w.heap.size A l) (A2 : Option Addr) (c2 : Nat) (p : List Bool) (hr2 : BReads w w.heap.size A2 p) (hl : l.length ≤ 200) (hpl : p.length ≤ 200) :
    Calls Try.prog 3 #[.slice A l.length c, .slice A2 p.length c2] w fun e w' => e = .returned (.bool true) ∧ Below w.heap.size w w' := by
  obtain ⟨i0, hi0, hz0, hz1, hz2⟩ := info_parts info29
  have HR := Lib.hid hr
  have HRB := Lib.hid hr2
  have g1 : decide ((200 : Int) < (l.length : Int)) = false := decide_eq_false (by omega)
  have g2 : decide ((200 : Int) < (p.length : Int)) = false := decide_eq_false (by omega)
  clear hr hr2
  go_enter Try.func3, Try.ntmps3
  go_wp2_with fail
  refine (awake_any _).mono ?_
  rintro e w1 ⟨rfl, hb1⟩
  have B1 := Lib.hid hb1
  clear hb1
  go_wp2_with fail
  refine (new_any w1).mono ?_
  rintro e w2 ⟨rfl, hO2, hb2, _⟩
  obtain ⟨h, hh⟩ : ∃ h, h = w1.heap.size := ⟨_, rfl⟩
  rw [← hh] at hO2
  have HH := Lib.hid (show w.heap.size ≤ h by rw [hh]; exact B1.out.size)
  have P2 := Lib.hid (show PH w h [] w2 from ⟨_, [], hO2, World.ownsRow_nil _ _ _ _, hall_nil, List.Perm.refl _⟩)
  have B2 := Lib.hid (B1.out.trans (hb2.mono B1.out.size))
  have R2 := Lib.hid (show RM w (.slice none 0 0) [] w2 from World.ownsRow_nil _ _ _ _)
  rw [← hh]
  clear hO2 hb2 hh
  go_wp2_with fail
  go_loopw [6, 7] (fun mv i wr => ∃ (k : Nat) (m : List D), i = .int .i64 k ∧ k ≤ l.length ∧ m.length ≤ k ∧ PH w h m wr ∧ RM w mv m wr ∧ Below w.heap.size w wr) (fun _ i _ => l.length - (intOf i).toNat)
  case atStart => exact ⟨0, [], rfl, by omega, by simp, P2.out, R2.out, B2.out⟩
  case round =>
    obtain ⟨k, m, rfl, hk, hmk, hP, hR, hB⟩ := hrel
    have PP0 := Lib.hid hP
    have RR0 := Lib.hid hR
    have BB0 := Lib.hid hB
    have HML := Lib.hid (show m.length ≤ 1000 by omega)
    have HMK := Lib.hid hmk
    clear hP hR hB hmk
    obtain ⟨mv, hmv⟩ : ∃ mv, mv = u6 := ⟨_, rfl⟩
    rw [← hmv] at RR0
    by_cases hlt : k < l.length
    · have HLT := Lib.hid hlt
      obtain ⟨ad, rfl, hadB, hcell⟩ := HR.out (by omega)
      have HCL := Lib.hid (show ∀ w', Below w.heap.size w w' → w'.cell? (ad.add (k * 2)) = some (.int .i64 (at_ l k).1) ∧ w'.cell? ((ad.add (k * 2)).add 1) = some (.int .i64 (at_ l k).2) from fun w' hb => reads_cell HR.out hb hlt)
      have BD := Lib.hid (BB0.out.drew)
      have PD := Lib.hid (show PH w h m wr.drew from PP0.out.below (Below.refl _ _).drew)
      have RD := Lib.hid (show RM w mv m wr.drew from RR0.out.below (Below.refl _ _).drew)
      clear hadB hcell hlt
      rw [← hmv]
      clear hmv
      go_upto_region 8 with fail
      go_cut [51] (fun _ wx => Hid (PH w h (m ++ [at_ l k]) wx) ∧ Hid (RM w mv m wx) ∧ Hid (Below w.heap.size w wx))
      case first =>
        refine g_region (fun w' => Below w.heap.size w w') 13 rfl (by kernel_rfl) ?_
        refine g_take 0 rfl (some 39) rfl (by kernel_rfl) (by kernel_rfl) (by kernel_rfl) (fun _ _ _ h => h) rfl (fun w' hw' => run_move_is (.tmp 5) (.pointer (some (⟨h, 0, none⟩))) rfl rfl w') BD.out ?_
        simp only [Act.put, List.setIfInBounds_toArray, List.set_cons_succ, List.set_cons_zero]
        refine g_take 1 rfl (some 40) rfl (by kernel_rfl) (by kernel_rfl) (by kernel_rfl) (fun _ _ _ h => h) rfl (fun w' hw' => run_move_is (.tmp 0) (.slice (some ad) l.length c) rfl rfl w') BD.out ?_
        simp only [Act.put, List.setIfInBounds_toArray, List.set_cons_succ, List.set_cons_zero]
        refine g_take 2 rfl (some 41) rfl (by kernel_rfl) (by kernel_rfl) (by kernel_rfl) (fun _ _ _ h => h) rfl (fun w' hw' => run_move_is (.tmp 7) (.int .i64 (k : Int)) rfl rfl w') BD.out ?_
        simp only [Act.put, List.setIfInBounds_toArray, List.set_cons_succ, List.set_cons_zero]
        refine g_take 3 rfl (some 42) rfl (by kernel_rfl) (by kernel_rfl) (by kernel_rfl) (fun _ _ _ h => h) rfl (fun w' hw' => run_at_T Try.underlying22 size29 (x := .tmp 40) (y := .tmp 41) (i := k) rfl rfl rfl HLT.out w') BD.out ?_
        simp only [Act.put, List.setIfInBounds_toArray, List.set_cons_succ, List.set_cons_zero]
        refine g_take 4 rfl (some 43) rfl (by kernel_rfl) (by kernel_rfl) (by kernel_rfl) (fun _ _ _ h => h) rfl (fun w' hw' => run_fld29_0 (x := .tmp 42) rfl rfl w') BD.out ?_
        simp only [Act.put, List.setIfInBounds_toArray, List.set_cons_succ, List.set_cons_zero]
        refine g_take 5 rfl (some 44) rfl (by kernel_rfl) (by kernel_rfl) (by kernel_rfl) (fun _ _ _ h => h) rfl (fun w' hw' => run_load_int (x := .tmp 43) rfl Try.underlying3 rfl (HCL.out w' hw').1) BD.out ?_
        simp only [Act.put, List.setIfInBounds_toArray, List.set_cons_succ, List.set_cons_zero]
        refine g_take 6 rfl (some 45) rfl (by kernel_rfl) (by kernel_rfl) (by kernel_rfl) (fun _ _ _ h => h) rfl (fun w' hw' => run_move_is (.tmp 0) (.slice (some ad) l.length c) rfl rfl w') BD.out ?_
        simp only [Act.put, List.setIfInBounds_toArray, List.set_cons_succ, List.set_cons_zero]
        refine g_take 7 rfl (some 46) rfl (by kernel_rfl) (by kernel_rfl) (by kernel_rfl) (fun _ _ _ h => h) rfl (fun w' hw' => run_move_is (.tmp 7) (.int .i64 (k : Int)) rfl rfl w') BD.out ?_
        simp only [Act.put, List.setIfInBounds_toArray, List.set_cons_succ, List.set_cons_zero]
        refine g_take 8 rfl (some 47) rfl (by kernel_rfl) (by kernel_rfl) (by kernel_rfl) (fun _ _ _ h => h) rfl (fun w' hw' => run_at_T Try.underlying22 size29 (x := .tmp 45) (y := .tmp 46) (i := k) rfl rfl rfl HLT.out w') BD.out ?_
        simp only [Act.put, List.setIfInBounds_toArray, List.set_cons_succ, List.set_cons_zero]
        refine g_take 9 rfl (some 48) rfl (by kernel_rfl) (by kernel_rfl) (by kernel_rfl) (fun _ _ _ h => h) rfl (fun w' hw' => run_fld29_1 (x := .tmp 47) rfl rfl w') BD.out ?_
        simp only [Act.put, List.setIfInBounds_toArray, List.set_cons_succ, List.set_cons_zero]
        refine g_take 10 rfl (some 49) rfl (by kernel_rfl) (by kernel_rfl) (by kernel_rfl) (fun _ _ _ h => h) rfl (fun w' hw' => run_load_int (x := .tmp 48) rfl Try.underlying3 rfl (HCL.out w' hw').2) BD.out ?_
        simp only [Act.put, List.setIfInBounds_toArray, List.set_cons_succ, List.set_cons_zero]
        refine g_take 11 rfl (some 50) rfl (by kernel_rfl) (by kernel_rfl) (by kernel_rfl) (fun _ _ _ h => h) rfl (fun w' hw' => run_build30 rfl (x0 := .tmp 44) (x1 := .tmp 49) rfl rfl w') BD.out ?_
        simp only [Act.put, List.setIfInBounds_toArray, List.set_cons_succ, List.set_cons_zero]
        refine g_one 12 (by kernel_rfl) ?_
        refine g_call rfl (some 51) rfl rfl (run_call2 (u := .pointer (some ⟨h, 0, none⟩)) (v := dv (at_ l k)) rfl Try.call15 rfl rfl _) (push_ph w _ h mv m (at_ l k) PD.out RD.out BD.out HH.out HML.out) ?_
        rintro e w5 ⟨rfl, hP, hR, hB, hsz⟩
        refine ⟨_, rfl, hB, ?_⟩
        simp only [Act.put, List.setIfInBounds_toArray, List.set_cons_succ, List.set_cons_zero]
        refine g_done (by kernel_rfl) ?_

        go_wp2_with fail
        go_meet
        exact ⟨Lib.hid hP, Lib.hid hR, Lib.hid hB⟩
      case rest =>
      obtain ⟨P5, R5, B5⟩ := hcut
      go_upto_region 9 with fail
      obtain ⟨Am, cm, rfl, hcm, _⟩ := own_reads R5.out rfl
      obtain ⟨w6, hw6⟩ : ∃ u, u = wc.drew := ⟨_, rfl⟩
      have HD6 := Lib.hid hw6.symm
      have hb6 : Below wc.heap.size wc w6 := by rw [hw6]; exact (Below.refl _ _).drew
      have P6 := Lib.hid (P5.out.below hb6)
      have RM6 := Lib.hid (R5.out.below hb6)
      have B6 := Lib.hid (B5.out.trans (hb6.mono B5.out.size))
      obtain ⟨SB, hSB⟩ : ∃ n, n = w6.heap.size := ⟨_, rfl⟩
      have HSB := Lib.hid hSB
      have HSZ := Lib.hid (show SB ≤ w6.heap.size by omega)
      clear hSB
      have HCL9 := Lib.hid (show ∀ w', Below SB w6 w' → w'.cell? (ad.add (k * 2)) = some (.int .i64 (at_ l k).1) ∧ w'.cell? ((ad.add (k * 2)).add 1) = some (.int .i64 (at_ l k).2) from fun w' hb => HCL.out w' (B6.out.trans (hb.mono (HSB.out ▸ B6.out.size))))
      clear hw6 hb6 hcm
      go_cut [6] (fun mv' wx => Hid (wx.ownsRow w6.heap.size 29 2 mv' (m ++ [at_ l k]).length (dcells (m ++ [at_ l k]))) ∧ Hid (Below w6.heap.size w6 wx))
      case first =>
        refine g_region (fun w' => Below SB w6 w') 10 rfl (by kernel_rfl) ?_
        rw [HD6.out]
        refine g_take 1 rfl (some 53) rfl (by kernel_rfl) (by kernel_rfl) (by kernel_rfl) (fun _ _ _ h => h) rfl (fun w' hw' => run_move_is (.tmp 6) (.slice Am m.length cm) rfl rfl w') (Below.refl _ _) ?_
        simp only [Act.put, List.setIfInBounds_toArray, List.set_cons_succ, List.set_cons_zero]
        refine g_take 3 rfl (some 55) rfl (by kernel_rfl) (by kernel_rfl) (by kernel_rfl) (fun _ _ _ h => h) rfl (fun w' hw' => run_move_is (.tmp 0) (.slice (some ad) l.length c) rfl rfl w') (Below.refl _ _) ?_
        simp only [Act.put, List.setIfInBounds_toArray, List.set_cons_succ, List.set_cons_zero]
        refine g_take 4 rfl (some 56) rfl (by kernel_rfl) (by kernel_rfl) (by kernel_rfl) (fun _ _ _ h => h) rfl (fun w' hw' => run_move_is (.tmp 7) (.int .i64 (k : Int)) rfl rfl w') (Below.refl _ _) ?_
        simp only [Act.put, List.setIfInBounds_toArray, List.set_cons_succ, List.set_cons_zero]
        refine g_take 5 rfl (some 57) rfl (by kernel_rfl) (by kernel_rfl) (by kernel_rfl) (fun _ _ _ h => h) rfl (fun w' hw' => run_at_T Try.underlying22 size29 (x := .tmp 55) (y := .tmp 56) (i := k) rfl rfl rfl HLT.out w') (Below.refl _ _) ?_
        simp only [Act.put, List.setIfInBounds_toArray, List.set_cons_succ, List.set_cons_zero]
        refine g_take 6 rfl (some 58) rfl (by kernel_rfl) (by kernel_rfl) (by kernel_rfl) (fun _ _ _ h => h) rfl (fun w' hw' => run_load_pair Try.underlying29 size29 (x := .tmp 57) rfl rfl (HCL9.out w' hw').1 (HCL9.out w' hw').2) (Below.refl _ _) ?_
        simp only [Act.put, List.setIfInBounds_toArray, List.set_cons_succ, List.set_cons_zero]
        have C0 := Lib.hid (Below.refl SB w6)
        refine g_two 0 7 (by kernel_rfl) ?_ ?_
        · refine g_val rfl (some 52) rfl rfl (run_row0 Try.underlying22 size29 rfl _) (C0.out.alloc (Nat.le_trans HSZ.out C0.out.size) _) ?_
          simp only [Act.put, List.setIfInBounds_toArray, List.set_cons_succ, List.set_cons_zero]
          obtain ⟨v1, hv1⟩ : ∃ u, u = w6.alloc (.cells #[] 29) := ⟨_, rfl⟩
          obtain ⟨ga, hga⟩ : ∃ g, g = w6.heap.size := ⟨_, rfl⟩
          have C1 := Lib.hid (show Below SB w6 v1 by rw [hv1]; exact C0.out.alloc (Nat.le_trans HSZ.out C0.out.size) _)
          have OA := Lib.hid (show v1.ownsRow SB 29 2 (.slice (some ⟨ga, 0, none⟩) 0 0) 0 [] by rw [hv1, hga]; exact World.ownsRow_lit (e := 29) (size := 2) (base := SB) w6 #[] 0 (Nat.le_trans HSZ.out C0.out.size) (by unfold maxLen; omega) rfl)
          rw [← hv1, ← hga]
          clear hv1 hga
          refine g_two 2 7 (by kernel_rfl) ?_ ?_
          · refine g_append rfl (some 54) rfl rfl (.tmp 52) (.tmp 53) _ rfl SB 29 i0 _ 2 16 Try.underlying22 hi0 hz0 hz1 hz2 rfl (by omega) (.slice (some ⟨ga, 0, none⟩) 0 0) 0 [] rfl OA.out _ Am m.length cm (dcells m) rfl (reads_of ((RM6.out.below (HSB.out ▸ C1.out)) |> fun r => (own_reads_is r rfl).2)) (dcells_one _) (by unfold maxLen; have := HML.out; omega) (by have := HML.out; omega) (Nat.le_trans HSZ.out C1.out.size) ?_
            intro v1 v2 hown1 hgr1 hat1
            have C2 := Lib.hid (C1.out.grown hgr1 (Nat.le_trans HSZ.out C1.out.size) (fun q hq => (own_lt OA.out hq).2))
            have O1 := Lib.hid hown1
            refine ⟨C2.out, ?_⟩
            simp only [Act.put, List.setIfInBounds_toArray, List.set_cons_succ, List.set_cons_zero]
            clear hown1 hgr1 hat1
            refine g_one 7 (by kernel_rfl) ?_
            refine g_val rfl (some 59) rfl rfl (run_row1 (d := at_ l k) rfl rfl _) (C2.out.alloc (Nat.le_trans HSZ.out C2.out.size) _) ?_
            simp only [Act.put, List.setIfInBounds_toArray, List.set_cons_succ, List.set_cons_zero]
            obtain ⟨v3, hv3⟩ : ∃ u, u = v2.alloc (.cells #[.int .i64 (at_ l k).1, .int .i64 (at_ l k).2] 29) := ⟨_, rfl⟩
            obtain ⟨gm, hgm⟩ : ∃ g, g = v2.heap.size := ⟨_, rfl⟩
            have C3 := Lib.hid (show Below SB w6 v3 by rw [hv3]; exact C2.out.alloc (Nat.le_trans HSZ.out C2.out.size) _)
            have XM := Lib.hid (show v3.heap[gm]? = some (.cells #[.int .i64 (at_ l k).1, .int .i64 (at_ l k).2] 29 (0, 0)) by rw [hv3, hgm]; exact heap_alloc_new v2 _)
            have O1 := Lib.hid (show v3.ownsRow SB 29 2 v1 (0 + m.length) ([] ++ dcells m) by rw [hv3]; exact O1.out.alloc _)
            rw [← hv3, ← hgm]
            clear hv3 hgm
            refine g_one 8 (by kernel_rfl) ?_
            refine g_append rfl (some 60) rfl rfl (.tmp 54) (.tmp 59) _ rfl SB 29 i0 _ 2 16 Try.underlying22 hi0 hz0 hz1 hz2 rfl (by omega) v1 (0 + m.length) ([] ++ dcells m) rfl O1.out _ (some ⟨gm, 0, none⟩) 1 1 [.int .i64 (at_ l k).1, .int .i64 (at_ l k).2] rfl (reads_one XM.out) (by simp [Value.oneCell']) (by unfold maxLen; have := HML.out; omega) (by have := HML.out; omega) (Nat.le_trans HSZ.out C3.out.size) ?_
            intro mv2 v4 hown2 hgr2 hat2
            have C4 := Lib.hid (C3.out.grown hgr2 (Nat.le_trans HSZ.out C3.out.size) (fun q hq => (own_lt O1.out hq).2))
            have O2 := Lib.hid (show v4.ownsRow SB 29 2 mv2 (m ++ [at_ l k]).length (dcells (m ++ [at_ l k])) by rw [List.length_append, dcells_append]; have := hown2; rw [Nat.zero_add, List.nil_append] at this; exact this)
            refine ⟨C4.out, ?_⟩
            simp only [Act.put, List.setIfInBounds_toArray, List.set_cons_succ, List.set_cons_zero]
            clear hown2 hgr2 hat2
            refine g_take 9 rfl (some 6) rfl (by kernel_rfl) (by kernel_rfl) (by kernel_rfl) (fun _ _ _ h => h) rfl (fun w' hw' => run_assign_is (.tmp 60) mv2 rfl rfl w') C4.out ?_
            simp only [Act.put, List.setIfInBounds_toArray, List.set_cons_succ, List.set_cons_zero]
            refine g_done (by kernel_rfl) ?_
            go_wp2_with fail
            go_meet
            exact ⟨Lib.hid (HSB.out ▸ O2.out), Lib.hid (HSB.out ▸ C4.out)⟩
          · refine g_val rfl (some 59) rfl rfl (run_row1 (d := at_ l k) rfl rfl _) (C1.out.alloc (Nat.le_trans HSZ.out C1.out.size) _) ?_
            simp only [Act.put, List.setIfInBounds_toArray, List.set_cons_succ, List.set_cons_zero]
            obtain ⟨v2, hv2⟩ : ∃ u, u = v1.alloc (.cells #[.int .i64 (at_ l k).1, .int .i64 (at_ l k).2] 29) := ⟨_, rfl⟩
            obtain ⟨gm, hgm⟩ : ∃ g, g = v1.heap.size := ⟨_, rfl⟩
            have C2 := Lib.hid (show Below SB w6 v2 by rw [hv2]; exact C1.out.alloc (Nat.le_trans HSZ.out C1.out.size) _)
            have XM := Lib.hid (show v2.heap[gm]? = some (.cells #[.int .i64 (at_ l k).1, .int .i64 (at_ l k).2] 29 (0, 0)) by rw [hv2, hgm]; exact heap_alloc_new v1 _)
            have HGA := Lib.hid (show gm ≠ ga by have := (own_lt OA.out (k := ga) rfl).1; rw [hgm]; omega)
            have OA := Lib.hid (show v2.ownsRow SB 29 2 (.slice (some ⟨ga, 0, none⟩) 0 0) 0 [] by rw [hv2]; exact OA.out.alloc _)
            rw [← hv2, ← hgm]
            clear hv2 hgm
            refine g_one 2 (by kernel_rfl) ?_
            refine g_append rfl (some 54) rfl rfl (.tmp 52) (.tmp 53) _ rfl SB 29 i0 _ 2 16 Try.underlying22 hi0 hz0 hz1 hz2 rfl (by omega) (.slice (some ⟨ga, 0, none⟩) 0 0) 0 [] rfl OA.out _ Am m.length cm (dcells m) rfl (reads_of ((RM6.out.below (HSB.out ▸ C2.out)) |> fun r => (own_reads_is r rfl).2)) (dcells_one _) (by unfold maxLen; have := HML.out; omega) (by have := HML.out; omega) (Nat.le_trans HSZ.out C2.out.size) ?_
            intro v1 v3 hown1 hgr1 hat1
            have C3 := Lib.hid (C2.out.grown hgr1 (Nat.le_trans HSZ.out C2.out.size) (fun q hq => (own_lt OA.out hq).2))
            have O1 := Lib.hid hown1
            have XM := Lib.hid ((hgr1.block gm (row_lt XM.out) (fun e => by have := HGA.out; exact this (by simpa [Value.ownBlock] using e))).trans XM.out)
            refine ⟨C3.out, ?_⟩
            simp only [Act.put, List.setIfInBounds_toArray, List.set_cons_succ, List.set_cons_zero]
            clear hown1 hgr1 hat1
            refine g_one 8 (by kernel_rfl) ?_
            refine g_append rfl (some 60) rfl rfl (.tmp 54) (.tmp 59) _ rfl SB 29 i0 _ 2 16 Try.underlying22 hi0 hz0 hz1 hz2 rfl (by omega) v1 (0 + m.length) ([] ++ dcells m) rfl O1.out _ (some ⟨gm, 0, none⟩) 1 1 [.int .i64 (at_ l k).1, .int .i64 (at_ l k).2] rfl (reads_one XM.out) (by simp [Value.oneCell']) (by unfold maxLen; have := HML.out; omega) (by have := HML.out; omega) (Nat.le_trans HSZ.out C3.out.size) ?_
            intro mv2 v4 hown2 hgr2 hat2
            have C4 := Lib.hid (C3.out.grown hgr2 (Nat.le_trans HSZ.out C3.out.size) (fun q hq => (own_lt O1.out hq).2))
            have O2 := Lib.hid (show v4.ownsRow SB 29 2 mv2 (m ++ [at_ l k]).length (dcells (m ++ [at_ l k])) by rw [List.length_append, dcells_append]; have := hown2; rw [Nat.zero_add, List.nil_append] at this; exact this)
            refine ⟨C4.out, ?_⟩
            simp only [Act.put, List.setIfInBounds_toArray, List.set_cons_succ, List.set_cons_zero]
            clear hown2 hgr2 hat2
            refine g_take 9 rfl (some 6) rfl (by kernel_rfl) (by kernel_rfl) (by kernel_rfl) (fun _ _ _ h => h) rfl (fun w' hw' => run_assign_is (.tmp 60) mv2 rfl rfl w') C4.out ?_
            simp only [Act.put, List.setIfInBounds_toArray, List.set_cons_succ, List.set_cons_zero]
            refine g_done (by kernel_rfl) ?_
            go_wp2_with fail
            go_meet
            exact ⟨Lib.hid (HSB.out ▸ O2.out), Lib.hid (HSB.out ▸ C4.out)⟩
        · refine g_val rfl (some 59) rfl rfl (run_row1 (d := at_ l k) rfl rfl _) (C0.out.alloc (Nat.le_trans HSZ.out C0.out.size) _) ?_
          simp only [Act.put, List.setIfInBounds_toArray, List.set_cons_succ, List.set_cons_zero]
          obtain ⟨v1, hv1⟩ : ∃ u, u = w6.alloc (.cells #[.int .i64 (at_ l k).1, .int .i64 (at_ l k).2] 29) := ⟨_, rfl⟩
          obtain ⟨gm, hgm⟩ : ∃ g, g = w6.heap.size := ⟨_, rfl⟩
          have C1 := Lib.hid (show Below SB w6 v1 by rw [hv1]; exact C0.out.alloc (Nat.le_trans HSZ.out C0.out.size) _)
          have XM := Lib.hid (show v1.heap[gm]? = some (.cells #[.int .i64 (at_ l k).1, .int .i64 (at_ l k).2] 29 (0, 0)) by rw [hv1, hgm]; exact heap_alloc_new w6 _)
          rw [← hv1, ← hgm]
          clear hv1 hgm
          refine g_one 0 (by kernel_rfl) ?_
          refine g_val rfl (some 52) rfl rfl (run_row0 Try.underlying22 size29 rfl _) (C1.out.alloc (Nat.le_trans HSZ.out C1.out.size) _) ?_
          simp only [Act.put, List.setIfInBounds_toArray, List.set_cons_succ, List.set_cons_zero]
          obtain ⟨v2, hv2⟩ : ∃ u, u = v1.alloc (.cells #[] 29) := ⟨_, rfl⟩
          obtain ⟨ga, hga⟩ : ∃ g, g = v1.heap.size := ⟨_, rfl⟩
          have C2 := Lib.hid (show Below SB w6 v2 by rw [hv2]; exact C1.out.alloc (Nat.le_trans HSZ.out C1.out.size) _)
          have OA := Lib.hid (show v2.ownsRow SB 29 2 (.slice (some ⟨ga, 0, none⟩) 0 0) 0 [] by rw [hv2, hga]; exact World.ownsRow_lit (e := 29) (size := 2) (base := SB) v1 #[] 0 (Nat.le_trans HSZ.out C1.out.size) (by unfold maxLen; omega) rfl)
          have HGA := Lib.hid (show gm ≠ ga by rw [hga]; exact Nat.ne_of_lt (row_lt XM.out))
          have XM := Lib.hid (show v2.heap[gm]? = some (.cells #[.int .i64 (at_ l k).1, .int .i64 (at_ l k).2] 29 (0, 0)) by rw [hv2]; exact (Below.heap_alloc _ _ _ (row_lt XM.out)).trans XM.out)
          rw [← hv2, ← hga]
          clear hv2 hga
          refine g_one 2 (by kernel_rfl) ?_
          refine g_append rfl (some 54) rfl rfl (.tmp 52) (.tmp 53) _ rfl SB 29 i0 _ 2 16 Try.underlying22 hi0 hz0 hz1 hz2 rfl (by omega) (.slice (some ⟨ga, 0, none⟩) 0 0) 0 [] rfl OA.out _ Am m.length cm (dcells m) rfl (reads_of ((RM6.out.below (HSB.out ▸ C2.out)) |> fun r => (own_reads_is r rfl).2)) (dcells_one _) (by unfold maxLen; have := HML.out; omega) (by have := HML.out; omega) (Nat.le_trans HSZ.out C2.out.size) ?_
          intro v1 v3 hown1 hgr1 hat1
          have C3 := Lib.hid (C2.out.grown hgr1 (Nat.le_trans HSZ.out C2.out.size) (fun q hq => (own_lt OA.out hq).2))
          have O1 := Lib.hid hown1
          have XM := Lib.hid ((hgr1.block gm (row_lt XM.out) (fun e => by have := HGA.out; exact this (by simpa [Value.ownBlock] using e))).trans XM.out)
          refine ⟨C3.out, ?_⟩
          simp only [Act.put, List.setIfInBounds_toArray, List.set_cons_succ, List.set_cons_zero]
          clear hown1 hgr1 hat1
          refine g_one 8 (by kernel_rfl) ?_
          refine g_append rfl (some 60) rfl rfl (.tmp 54) (.tmp 59) _ rfl SB 29 i0 _ 2 16 Try.underlying22 hi0 hz0 hz1 hz2 rfl (by omega) v1 (0 + m.length) ([] ++ dcells m) rfl O1.out _ (some ⟨gm, 0, none⟩) 1 1 [.int .i64 (at_ l k).1, .int .i64 (at_ l k).2] rfl (reads_one XM.out) (by simp [Value.oneCell']) (by unfold maxLen; have := HML.out; omega) (by have := HML.out; omega) (Nat.le_trans HSZ.out C3.out.size) ?_
          intro mv2 v4 hown2 hgr2 hat2
          have C4 := Lib.hid (C3.out.grown hgr2 (Nat.le_trans HSZ.out C3.out.size) (fun q hq => (own_lt O1.out hq).2))
          have O2 := Lib.hid (show v4.ownsRow SB 29 2 mv2 (m ++ [at_ l k]).length (dcells (m ++ [at_ l k])) by rw [List.length_append, dcells_append]; have := hown2; rw [Nat.zero_add, List.nil_append] at this; exact this)
          refine ⟨C4.out, ?_⟩
          simp only [Act.put, List.setIfInBounds_toArray, List.set_cons_succ, List.set_cons_zero]
          clear hown2 hgr2 hat2
          refine g_take 9 rfl (some 6) rfl (by kernel_rfl) (by kernel_rfl) (by kernel_rfl) (fun _ _ _ h => h) rfl (fun w' hw' => run_assign_is (.tmp 60) mv2 rfl rfl w') C4.out ?_
          simp only [Act.put, List.setIfInBounds_toArray, List.set_cons_succ, List.set_cons_zero]
          refine g_done (by kernel_rfl) ?_
          go_wp2_with fail
          go_meet
          exact ⟨Lib.hid (HSB.out ▸ O2.out), Lib.hid (HSB.out ▸ C4.out)⟩

      case rest =>
      obtain ⟨O7, B7⟩ := hcut
      obtain ⟨m1, hm1⟩ : ∃ m1, m1 = m ++ [at_ l k] := ⟨_, rfl⟩
      have hm1l : m1.length = m.length + 1 := by rw [hm1]; simp
      have HM0 := Lib.hid (show 0 < m1.length by omega)
      have hml1 : m1.length ≤ 1000 := by have := HMK.out; omega
      have HML := Lib.hid hml1
      have HMK := Lib.hid (show m1.length ≤ k + 1 by have := HMK.out; omega)
      have RMM0 := Lib.hid (show RM w u6 m1 wc by rw [hm1]; exact own_base O7.out B6.out.size)
      have PM := Lib.hid (show PH w h m1 wc by rw [hm1]; exact P6.out.below B7.out)
      have BB := Lib.hid (B6.out.trans (B7.out.mono B6.out.size))
      clear hm1 hm1l hml1 O7 B7 P6 RM6 B6 HCL9 P5 R5 B5 HD6
      obtain ⟨Am1, cm1, rfl, _, hrd⟩ := own_reads RMM0.out rfl
      obtain ⟨am, rfl, _, _⟩ := hrd HM0.out
      have RMM := Lib.hid RMM0.out
      clear hrd
      obtain ⟨U, rfl⟩ : ∃ U, U = wc := ⟨_, rfl⟩
      go_upto_region 10 with fail
      go_cut [70] (fun r wx => (∃ t, r = .bool t) ∧ wx = U)
      case first =>
        by_cases hkp : k < p.length
        · obtain ⟨adb, rfl, _, hbc⟩ := (HRB.out.below BB.out) (by omega)
          have HB := Lib.hid (show U.cell? (adb.add (k * 1)) = some (.bool (p.getD k false)) by rw [Nat.mul_one]; exact hbc k hkp)
          have hd : decide ((k : Int) < (p.length : Int)) = true := decide_eq_true (by omega)
          clear hbc
          go_wp2_with (first | refine l_val rfl (run_at_T Try.underlying23 size4 (x := .tmp 66) (y := .tmp 67) (ad := adb) (i := k) rfl rfl rfl hkp _) ?_ | refine l_val rfl (run_load_bool (x := .tmp 68) rfl Try.underlying4 rfl HB.out) ?_)
          go_meet
          exact ⟨⟨_, rfl⟩, rfl⟩
        · have hd : decide ((k : Int) < (p.length : Int)) = false := decide_eq_false (by omega)
          go_wp2_with fail
          go_meet
          exact ⟨⟨_, rfl⟩, rfl⟩
      case rest =>
      obtain ⟨⟨t, rfl⟩, rfl⟩ := hcut
      go_upto_if 70 with fail
      go_cut [6] (fun mv' wx => ∃ m', Hid (m'.length ≤ k + 1) ∧ Hid (PH w h m' wx) ∧ Hid (RM w mv' m' wx) ∧ Hid (Below w.heap.size w wx))
      case first =>
        cases t
        · go_wp2_with fail
          go_meet
          exact ⟨m1, HMK, PM, RMM, BB⟩
        ·
          go_wp2_with fail
          refine (pop_ph w wc h _ m1 PM.out RMM.out BB.out HH.out HML.out HM0.out).mono ?_
          rintro e w7 ⟨x, mq, rfl, hP, hp, hx, hR, hB⟩
          have P7 := Lib.hid hP
          have PP := Lib.hid hp
          have LX := Lib.hid hx
          have R7 := Lib.hid hR
          have B7 := Lib.hid hB
          clear hP hp hx hR hB
          unfold dv
          go_wp2_with fail
          obtain ⟨G, hG⟩ : ∃ G, G = w7.heap.size := ⟨_, rfl⟩
          obtain ⟨w8, hw8⟩ : ∃ w8, w8 = w7.alloc (.cells #[.int .i64 x.1, .int .i64 x.2] 30) := ⟨_, rfl⟩
          have X8 := Lib.hid (show w8.heap[G]? = some (.cells #[.int .i64 x.1, .int .i64 x.2] 30 (0, 0)) by rw [hw8, hG]; exact heap_alloc_new w7 _)
          have hb8 : Below w7.heap.size w7 w8 := by rw [hw8]; exact (Below.refl _ _).alloc (Nat.le_refl _) _
          have P8 := Lib.hid (P7.out.below hb8)
          have R8 := Lib.hid (R7.out.below hb8)
          have B8 := Lib.hid (B7.out.trans (hb8.mono B7.out.size))
          rw [← hw8, ← hG]
          clear hw8 hG hb8
          refine (least_any w8 (some am) cm1 m1 (own_reads_is R8.out rfl).2 HML.out).mono ?_
          rintro e w9 ⟨kk, rfl, hL, hb9⟩
          obtain ⟨b, hbm, rfl, hat, hpe⟩ := least_is PP.out LX.out hL
          have HBM := Lib.hid hbm
          have N1 := Lib.hid (show decide (x.1 ≠ (at_ m1 b).1) = false by rw [hat]; exact decide_eq_false (fun h => h rfl))
          have N2 := Lib.hid (show decide (x.2 ≠ (at_ m1 b).2) = false by rw [hat]; exact decide_eq_false (fun h => h rfl))
          have X9 := Lib.hid ((hb9.block G (row_lt X8.out)).trans X8.out)
          have P9 := Lib.hid ((P8.out.below hb9).perm hpe)
          have R9 := Lib.hid (R8.out.below hb9)
          have HR9 := Lib.hid (own_reads_is R9.out rfl).2
          have B9 := Lib.hid (B8.out.trans (hb9.mono B8.out.size))
          clear hL hb9 hbm hat hpe X8 P8 R8 B8 P7 PP LX R7 B7
          go_upto_region 13 with fail
          refine r_region (fun w' => Below w9.heap.size w9 w') (by kernel_rfl) (by kernel_rfl) (Below.refl _ _).drew ?_
          refine r_move_is rfl (.tmp 9) (.bool true) rfl rfl ?_
          simp only [Act.put, List.setIfInBounds_toArray, List.set_cons_succ, List.set_cons_zero]
          refine r_val rfl (fun w' hw' => run_not_is (x := .tmp 78) rfl (b := true) rfl false rfl w') ?_
          simp only [Act.put, List.setIfInBounds_toArray, List.set_cons_succ, List.set_cons_zero]
          refine r_move_is rfl (.tmp 79) (.bool false) rfl rfl ?_
          simp only [Act.put, List.setIfInBounds_toArray, List.set_cons_succ, List.set_cons_zero]
          refine r_val rfl (fun w' hw' => run_fld30_0 (x := .tmp 8) rfl rfl w') ?_
          simp only [Act.put, List.setIfInBounds_toArray, List.set_cons_succ, List.set_cons_zero]
          refine r_val rfl (fun w' hw' => run_load_int (x := .tmp 81) rfl Try.underlying3 rfl (pair_cell X9.out hw').1) ?_
          simp only [Act.put, List.setIfInBounds_toArray, List.set_cons_succ, List.set_cons_zero]
          refine r_move_is rfl (.tmp 6) (.slice (some am) m1.length cm1) rfl rfl ?_
          simp only [Act.put, List.setIfInBounds_toArray, List.set_cons_succ, List.set_cons_zero]
          refine r_move_is rfl (.tmp 10) (.int .i64 (b : Int)) rfl rfl ?_
          simp only [Act.put, List.setIfInBounds_toArray, List.set_cons_succ, List.set_cons_zero]
          refine r_val rfl (fun w' hw' => run_at_T Try.underlying22 size29 (x := .tmp 83) (y := .tmp 84) (i := b) rfl rfl rfl HBM.out w') ?_
          simp only [Act.put, List.setIfInBounds_toArray, List.set_cons_succ, List.set_cons_zero]
          refine r_val rfl (fun w' hw' => run_fld29_0 (x := .tmp 85) rfl rfl w') ?_
          simp only [Act.put, List.setIfInBounds_toArray, List.set_cons_succ, List.set_cons_zero]
          refine r_val rfl (fun w' hw' => run_load_int (x := .tmp 86) rfl Try.underlying3 rfl (reads_cell HR9.out hw' HBM.out).1) ?_
          simp only [Act.put, List.setIfInBounds_toArray, List.set_cons_succ, List.set_cons_zero]
          refine r_val rfl (fun w' hw' => run_neq_i (x := .tmp 82) (y := .tmp 87) rfl rfl rfl false N1.out w') ?_
          simp only [Act.put, List.setIfInBounds_toArray, List.set_cons_succ, List.set_cons_zero]
          refine r_val rfl (fun w' hw' => run_pick_is (c := .tmp 80) (a := .const (.bool true)) (b := .tmp 88) rfl (t := false) rfl (.bool false) rfl w') ?_
          simp only [Act.put, List.setIfInBounds_toArray, List.set_cons_succ, List.set_cons_zero]
          refine r_move_is rfl (.tmp 89) (.bool false) rfl rfl ?_
          simp only [Act.put, List.setIfInBounds_toArray, List.set_cons_succ, List.set_cons_zero]
          refine r_val rfl (fun w' hw' => run_fld30_1 (x := .tmp 8) rfl rfl w') ?_
          simp only [Act.put, List.setIfInBounds_toArray, List.set_cons_succ, List.set_cons_zero]
          refine r_val rfl (fun w' hw' => run_load_int (x := .tmp 91) rfl Try.underlying3 rfl (pair_cell X9.out hw').2) ?_
          simp only [Act.put, List.setIfInBounds_toArray, List.set_cons_succ, List.set_cons_zero]
          refine r_move_is rfl (.tmp 6) (.slice (some am) m1.length cm1) rfl rfl ?_
          simp only [Act.put, List.setIfInBounds_toArray, List.set_cons_succ, List.set_cons_zero]
          refine r_move_is rfl (.tmp 10) (.int .i64 (b : Int)) rfl rfl ?_
          simp only [Act.put, List.setIfInBounds_toArray, List.set_cons_succ, List.set_cons_zero]
          refine r_val rfl (fun w' hw' => run_at_T Try.underlying22 size29 (x := .tmp 93) (y := .tmp 94) (i := b) rfl rfl rfl HBM.out w') ?_
          simp only [Act.put, List.setIfInBounds_toArray, List.set_cons_succ, List.set_cons_zero]
          refine r_val rfl (fun w' hw' => run_fld29_1 (x := .tmp 95) rfl rfl w') ?_
          simp only [Act.put, List.setIfInBounds_toArray, List.set_cons_succ, List.set_cons_zero]
          refine r_val rfl (fun w' hw' => run_load_int (x := .tmp 96) rfl Try.underlying3 rfl (reads_cell HR9.out hw' HBM.out).2) ?_
          simp only [Act.put, List.setIfInBounds_toArray, List.set_cons_succ, List.set_cons_zero]
          refine r_val rfl (fun w' hw' => run_neq_i (x := .tmp 92) (y := .tmp 97) rfl rfl rfl false N2.out w') ?_
          simp only [Act.put, List.setIfInBounds_toArray, List.set_cons_succ, List.set_cons_zero]
          refine r_val rfl (fun w' hw' => run_pick_is (c := .tmp 90) (a := .const (.bool true)) (b := .tmp 98) rfl (t := false) rfl (.bool false) rfl w') ?_
          simp only [Act.put, List.setIfInBounds_toArray, List.set_cons_succ, List.set_cons_zero]
          refine r_nil ?_
          intro w10 hw2
          have P10 := Lib.hid (P9.out.below hw2)
          have R10 := Lib.hid (R9.out.below hw2)
          have B10 := Lib.hid (B9.out.trans (hw2.mono B9.out.size))
          clear hw2 X9 P9 R9 HR9 B9 N1 N2
          go_wp2_with fail
          refine (without_any w10 (some am) cm1 m1 (own_reads_is R10.out rfl).2 HML.out (own_reads_is R10.out rfl).1 b HBM.out).mono ?_
          rintro e w11 ⟨mv', rfl, hown, hb11⟩
          have R11 := Lib.hid (show RM w mv' (m1.eraseIdx b) w11 by
            unfold RM
            rw [List.length_eraseIdx_of_lt HBM.out]
            exact own_base hown B10.out.size)
          have P11 := Lib.hid (P10.out.below hb11)
          have B11 := Lib.hid (B10.out.trans (hb11.mono B10.out.size))
          have ML11 := Lib.hid (show (m1.eraseIdx b).length + 1= m1.length by rw [List.length_eraseIdx_of_lt HBM.out]; have := HM0.out; omega)
          clear hown hb11 P10 R10 B10

          go_wp2_with fail
          go_meet
          exact ⟨m1.eraseIdx b, Lib.hid (by have := ML11.out; have := HMK.out; omega), P11, R11, B11⟩
      case rest =>
      obtain ⟨m2, HMK2, P12, R12, B12⟩ := hcut
      obtain ⟨A2m, c2m, rfl, _, _⟩ := own_reads R12.out rfl
      go_wp2_with fail
      refine (len_ph w _ h m2 P12.out).mono ?_
      rintro e w13 ⟨rfl, rfl⟩
      go_wp2_with fail
      go_roundw
      case rel => exact ⟨k + 1, m2, by go_num, HLT.out, HMK2.out, P12.out, R12.out, B12.out⟩
      case measure => have := HLT.out; simp [intOf]; omega
    · have PS := Lib.hid PP0.out
      have RS := Lib.hid (show RM w u6 m wr by rw [← hmv]; exact RR0.out)
      have hm200 : m.length ≤ 200 := by have := HMK.out; omega
      clear PP0 RR0 hmv HMK
      obtain ⟨U, rfl⟩ : ∃ U, U = wr := ⟨_, rfl⟩
      go_wp2_with fail
      go_loopw [6] (fun mv wr => ∃ m : List D, m.length ≤ 200 ∧ PH w h m wr ∧ RM w mv m wr ∧ Below w.heap.size w wr) (fun mv _ => sliceLen mv)
      case atStart => exact ⟨m, hm200, PS.out, RS.out, BB0.out⟩
      case round =>
        obtain ⟨n, hn, hP, hR, hB⟩ := hrel
        have PM := Lib.hid hP
        have BB := Lib.hid hB
        have HML := Lib.hid (show n.length ≤ 1000 by omega)
        have HM2 := Lib.hid hn
        obtain ⟨An, cm1, rfl, _, hrd⟩ := own_reads hR rfl
        have RMM := Lib.hid hR
        clear hP hR hB hn
        by_cases h0 : 0 < n.length
        · have HM0 := Lib.hid h0
          obtain ⟨am, rfl, _, _⟩ := hrd h0
          clear hrd
          go_wp2_with fail
          refine (pop_ph w _ h _ n PM.out RMM.out BB.out HH.out HML.out HM0.out).mono ?_
          rintro e w7 ⟨x, mq, rfl, hP, hp, hx, hR, hB⟩
          have P7 := Lib.hid hP
          have PP := Lib.hid hp
          have LX := Lib.hid hx
          have R7 := Lib.hid hR
          have B7 := Lib.hid hB
          clear hP hp hx hR hB
          unfold dv
          go_wp2_with fail
          obtain ⟨G, hG⟩ : ∃ G, G = w7.heap.size := ⟨_, rfl⟩
          obtain ⟨w8, hw8⟩ : ∃ w8, w8 = w7.alloc (.cells #[.int .i64 x.1, .int .i64 x.2] 30) := ⟨_, rfl⟩
          have X8 := Lib.hid (show w8.heap[G]? = some (.cells #[.int .i64 x.1, .int .i64 x.2] 30 (0, 0)) by rw [hw8, hG]; exact heap_alloc_new w7 _)
          have hb8 : Below w7.heap.size w7 w8 := by rw [hw8]; exact (Below.refl _ _).alloc (Nat.le_refl _) _
          have P8 := Lib.hid (P7.out.below hb8)
          have R8 := Lib.hid (R7.out.below hb8)
          have B8 := Lib.hid (B7.out.trans (hb8.mono B7.out.size))
          rw [← hw8, ← hG]
          clear hw8 hG hb8
          refine (least_any w8 (some am) cm1 n (own_reads_is R8.out rfl).2 HML.out).mono ?_
          rintro e w9 ⟨kk, rfl, hL, hb9⟩
          obtain ⟨b, hbm, rfl, hat, hpe⟩ := least_is PP.out LX.out hL
          have HBM := Lib.hid hbm
          have N1 := Lib.hid (show decide (x.1 ≠ (at_ n b).1) = false by rw [hat]; exact decide_eq_false (fun h => h rfl))
          have N2 := Lib.hid (show decide (x.2 ≠ (at_ n b).2) = false by rw [hat]; exact decide_eq_false (fun h => h rfl))
          have X9 := Lib.hid ((hb9.block G (row_lt X8.out)).trans X8.out)
          have P9 := Lib.hid ((P8.out.below hb9).perm hpe)
          have R9 := Lib.hid (R8.out.below hb9)
          have HR9 := Lib.hid (own_reads_is R9.out rfl).2
          have B9 := Lib.hid (B8.out.trans (hb9.mono B8.out.size))
          clear hL hb9 hbm hat hpe X8 P8 R8 B8 P7 PP LX R7 B7
          go_upto_region 21 with fail
          refine r_region (fun w' => Below w9.heap.size w9 w') (by kernel_rfl) (by kernel_rfl) (Below.refl _ _).drew ?_
          refine r_move_is rfl (.tmp 12) (.bool true) rfl rfl ?_
          simp only [Act.put, List.setIfInBounds_toArray, List.set_cons_succ, List.set_cons_zero]
          refine r_val rfl (fun w' hw' => run_not_is (x := .tmp 118) rfl (b := true) rfl false rfl w') ?_
          simp only [Act.put, List.setIfInBounds_toArray, List.set_cons_succ, List.set_cons_zero]
          refine r_move_is rfl (.tmp 119) (.bool false) rfl rfl ?_
          simp only [Act.put, List.setIfInBounds_toArray, List.set_cons_succ, List.set_cons_zero]
          refine r_val rfl (fun w' hw' => run_fld30_0 (x := .tmp 11) rfl rfl w') ?_
          simp only [Act.put, List.setIfInBounds_toArray, List.set_cons_succ, List.set_cons_zero]
          refine r_val rfl (fun w' hw' => run_load_int (x := .tmp 121) rfl Try.underlying3 rfl (pair_cell X9.out hw').1) ?_
          simp only [Act.put, List.setIfInBounds_toArray, List.set_cons_succ, List.set_cons_zero]
          refine r_move_is rfl (.tmp 6) (.slice (some am) n.length cm1) rfl rfl ?_
          simp only [Act.put, List.setIfInBounds_toArray, List.set_cons_succ, List.set_cons_zero]
          refine r_move_is rfl (.tmp 13) (.int .i64 (b : Int)) rfl rfl ?_
          simp only [Act.put, List.setIfInBounds_toArray, List.set_cons_succ, List.set_cons_zero]
          refine r_val rfl (fun w' hw' => run_at_T Try.underlying22 size29 (x := .tmp 123) (y := .tmp 124) (i := b) rfl rfl rfl HBM.out w') ?_
          simp only [Act.put, List.setIfInBounds_toArray, List.set_cons_succ, List.set_cons_zero]
          refine r_val rfl (fun w' hw' => run_fld29_0 (x := .tmp 125) rfl rfl w') ?_
          simp only [Act.put, List.setIfInBounds_toArray, List.set_cons_succ, List.set_cons_zero]
          refine r_val rfl (fun w' hw' => run_load_int (x := .tmp 126) rfl Try.underlying3 rfl (reads_cell HR9.out hw' HBM.out).1) ?_
          simp only [Act.put, List.setIfInBounds_toArray, List.set_cons_succ, List.set_cons_zero]
          refine r_val rfl (fun w' hw' => run_neq_i (x := .tmp 122) (y := .tmp 127) rfl rfl rfl false N1.out w') ?_
          simp only [Act.put, List.setIfInBounds_toArray, List.set_cons_succ, List.set_cons_zero]
          refine r_val rfl (fun w' hw' => run_pick_is (c := .tmp 120) (a := .const (.bool true)) (b := .tmp 128) rfl (t := false) rfl (.bool false) rfl w') ?_
          simp only [Act.put, List.setIfInBounds_toArray, List.set_cons_succ, List.set_cons_zero]
          refine r_move_is rfl (.tmp 129) (.bool false) rfl rfl ?_
          simp only [Act.put, List.setIfInBounds_toArray, List.set_cons_succ, List.set_cons_zero]
          refine r_val rfl (fun w' hw' => run_fld30_1 (x := .tmp 11) rfl rfl w') ?_
          simp only [Act.put, List.setIfInBounds_toArray, List.set_cons_succ, List.set_cons_zero]
          refine r_val rfl (fun w' hw' => run_load_int (x := .tmp 131) rfl Try.underlying3 rfl (pair_cell X9.out hw').2) ?_
          simp only [Act.put, List.setIfInBounds_toArray, List.set_cons_succ, List.set_cons_zero]
          refine r_move_is rfl (.tmp 6) (.slice (some am) n.length cm1) rfl rfl ?_
          simp only [Act.put, List.setIfInBounds_toArray, List.set_cons_succ, List.set_cons_zero]
          refine r_move_is rfl (.tmp 13) (.int .i64 (b : Int)) rfl rfl ?_
          simp only [Act.put, List.setIfInBounds_toArray, List.set_cons_succ, List.set_cons_zero]
          refine r_val rfl (fun w' hw' => run_at_T Try.underlying22 size29 (x := .tmp 133) (y := .tmp 134) (i := b) rfl rfl rfl HBM.out w') ?_
          simp only [Act.put, List.setIfInBounds_toArray, List.set_cons_succ, List.set_cons_zero]
          refine r_val rfl (fun w' hw' => run_fld29_1 (x := .tmp 135) rfl rfl w') ?_
          simp only [Act.put, List.setIfInBounds_toArray, List.set_cons_succ, List.set_cons_zero]
          refine r_val rfl (fun w' hw' => run_load_int (x := .tmp 136) rfl Try.underlying3 rfl (reads_cell HR9.out hw' HBM.out).2) ?_
          simp only [Act.put, List.setIfInBounds_toArray, List.set_cons_succ, List.set_cons_zero]
          refine r_val rfl (fun w' hw' => run_neq_i (x := .tmp 132) (y := .tmp 137) rfl rfl rfl false N2.out w') ?_
          simp only [Act.put, List.setIfInBounds_toArray, List.set_cons_succ, List.set_cons_zero]
          refine r_val rfl (fun w' hw' => run_pick_is (c := .tmp 130) (a := .const (.bool true)) (b := .tmp 138) rfl (t := false) rfl (.bool false) rfl w') ?_
          simp only [Act.put, List.setIfInBounds_toArray, List.set_cons_succ, List.set_cons_zero]
          refine r_nil ?_
          intro w10 hw2
          have P10 := Lib.hid (P9.out.below hw2)
          have R10 := Lib.hid (R9.out.below hw2)
          have B10 := Lib.hid (B9.out.trans (hw2.mono B9.out.size))
          clear hw2 X9 P9 R9 HR9 B9 N1 N2
          go_wp2_with fail
          refine (without_any w10 (some am) cm1 n (own_reads_is R10.out rfl).2 HML.out (own_reads_is R10.out rfl).1 b HBM.out).mono ?_
          rintro e w11 ⟨mv', rfl, hown, hb11⟩
          have R11 := Lib.hid (show RM w mv' (n.eraseIdx b) w11 by
            unfold RM
            rw [List.length_eraseIdx_of_lt HBM.out]
            exact own_base hown B10.out.size)
          have P11 := Lib.hid (P10.out.below hb11)
          have B11 := Lib.hid (B10.out.trans (hb11.mono B10.out.size))
          have ML11 := Lib.hid (show (n.eraseIdx b).length + 1= n.length by rw [List.length_eraseIdx_of_lt HBM.out]; have := HM0.out; omega)
          clear hown hb11 P10 R10 B10

          go_wp2_with fail
          go_roundw
          case rel => exact ⟨n.eraseIdx b, by have := ML11.out; have := HM2.out; omega, P11.out, R11.out, B11.out⟩
          case measure =>
            have h1 := own_len R11.out
            have h2 := ML11.out
            show sliceLen mv' < n.length
            rw [h1]
            omega
        · have hn0 : n = [] := List.eq_nil_of_length_eq_zero (by omega)
          subst hn0
          clear hrd h0
          go_wp2_with fail
          refine (pop_ph0 w _ h PM.out).mono ?_
          rintro e w7 ⟨rfl, hb7⟩
          have P7 := Lib.hid (PM.out.below hb7)
          have B7 := Lib.hid (BB.out.trans (hb7.mono BB.out.size))
          obtain ⟨G, hG⟩ : ∃ G, G = w7.heap.size := ⟨_, rfl⟩
          obtain ⟨w8, hw8⟩ : ∃ w8, w8 = w7.alloc (.cells #[.int .i64 0, .int .i64 0] 30) := ⟨_, rfl⟩
          have X8 := Lib.hid (show w8.heap[G]? = some (.cells #[.int .i64 ((0, 0) : D).1, .int .i64 ((0, 0) : D).2] 30 (0, 0)) by rw [hw8, hG]; exact heap_alloc_new w7 _)
          have hb8 : Below w7.heap.size w7 w8 := by rw [hw8]; exact (Below.refl _ _).alloc (Nat.le_refl _) _
          have P8 := Lib.hid (P7.out.below hb8)
          have B8 := Lib.hid (B7.out.trans (hb8.mono B7.out.size))
          have HPN := Lib.hid (push_nil w8 (0, 0))
          have HPO := Lib.hid (fun w => pop_none w none none 0 (.inl rfl))
          unfold dv at HPN HPO
          clear hb7 hb8 P7 B7
          unfold dv
          go_wp2_with fail
          rw [← hw8, ← hG]
          clear hw8 hG
          refine HPN.out.mono ?_
          rintro e w9 ⟨rfl, hb9⟩
          have X9 := Lib.hid ((hb9.block G (row_lt X8.out)).trans X8.out)
          have P9 := Lib.hid (P8.out.below hb9)
          have B9 := Lib.hid (B8.out.trans (hb9.mono B8.out.size))
          clear hb9 X8 P8 B8
          go_wp2_with fail
          refine (HPO.out w9).mono ?_
          rintro e w10 ⟨rfl, hb10⟩
          have X10 := Lib.hid ((hb10.block G (row_lt X9.out)).trans X9.out)
          have P10 := Lib.hid (P9.out.below hb10)
          have B10 := Lib.hid (B9.out.trans (hb10.mono B9.out.size))
          obtain ⟨w11, hw11⟩ : ∃ u, u = w10.alloc (.cells #[.int .i64 0, .int .i64 0] 30) := ⟨_, rfl⟩
          have hb11 : Below w10.heap.size w10 w11 := by rw [hw11]; exact (Below.refl _ _).alloc (Nat.le_refl _) _
          have P11 := Lib.hid (P10.out.below hb11)
          have B11 := Lib.hid (B10.out.trans (hb11.mono B10.out.size))
          have X11 := Lib.hid ((hb11.block G (row_lt X10.out)).trans X10.out)
          obtain ⟨s1, s2, _, _⟩ := at_of_row (x := ((0, 0) : D)) X11.out
          have HL := Lib.hid (len_ph w w11 h [] P11.out)
          clear hb10 hb11 X9 P9 B9
          subst hw11
          go_wp2_with fail
          refine HL.out.mono ?_
          rintro e w12 ⟨rfl, rfl⟩
          go_wp2_with fail
          refine (len_none _).mono ?_
          rintro e w13 ⟨rfl, rfl⟩
          go_wp2
          go_ret
          exact ⟨rfl, B11.out⟩

set_option maxRecDepth 100000 in
set_option maxHeartbeats 1000000 in
theorem plays_long (w : World) (A : Option Addr) (c n : Nat) (A2 : Option Addr) (c2 m : Nat) (hn : n ≤ maxLen) (hm : m ≤ maxLen) (h : 200 < n ∨ 200 < m) :
    Calls Try.prog 3 #[.slice A n c, .slice A2 m c2] w fun e w' => e = .returned (.bool true) ∧ Below w.heap.size w w' := by
  unfold maxLen at hn hm
  by_cases h1 : 200 < n
  · have g1 : decide ((200 : Int) < (n : Int)) = true := decide_eq_true (by omega)
    go_enter Try.func3, Try.ntmps3
    go_wp2_with fail
    refine (awake_any _).mono ?_
    rintro e w1 ⟨rfl, hb1⟩
    go_wp2_with fail
    refine (awake_any _).mono ?_
    rintro e w2 ⟨rfl, hb2⟩
    go_wp2
    go_ret
    exact ⟨rfl, hb1.trans (hb2.mono hb1.size)⟩
  · have g1 : decide ((200 : Int) < (n : Int)) = false := decide_eq_false (by omega)
    have g2 : decide ((200 : Int) < (m : Int)) = true := decide_eq_true (by omega)
    go_enter Try.func3, Try.ntmps3
    go_wp2_with fail
    refine (awake_any _).mono ?_
    rintro e w1 ⟨rfl, hb1⟩
    go_wp2_with fail
    refine (awake_any _).mono ?_
    rintro e w2 ⟨rfl, hb2⟩
    go_wp2
    go_ret
    exact ⟨rfl, hb1.trans (hb2.mono hb1.size)⟩
theorem walk_heapPlays (w : World) (A : Option Addr) (c : Nat) (l : List D) (hm : l.length ≤ maxLen) (hr : DReads w w.heap.size A l) (A2 : Option Addr) (c2 : Nat) (p : List Bool) (hm2 : p.length ≤ maxLen) (hr2 : BReads w w.heap.size A2 p) :
    Calls Try.prog 3 #[.slice A l.length c, .slice A2 p.length c2] w fun e w' => e = .returned (.bool true) ∧ Below w.heap.size w w' := by
  by_cases h : 200 < l.length ∨ 200 < p.length
  · exact plays_long w A c _ A2 c2 _ hm hm2 h
  · exact plays_run w A c l hr A2 c2 p hr2 (by omega) (by omega)

set_option maxRecDepth 100000 in
theorem heapPlays_lifted (os : Os) (started : os.Started) (H : Type) (enc : TypeId × Value → H) :
    ReturnsInHanded {} Try.checked os 3 .any (Rows.heapPlaysSpec.pre6 enc Try.prog Try.f3 Rows.heapPlaysRow.domain false) (Rows.heapPlaysSpec.post enc Try.prog Try.f3 false true false false) := by
  refine returnsInHanded_of_change (C := Try.checked) own started (by kernel_rfl) Try.func3
    (ChangeSpec.witness6 (enc := enc) (C := Try.checked) false ⟨#[], #[.slice none 0 0, .slice none 0 0], []⟩ 8 (by kernel_rfl) (by kernel_rfl) (by kernel_rfl) (by kernel_rfl)) ?_
  intro W base args ds gs before hval0 hW hcnd hsz
  have hval : ∀ (j : Nat) t v, Try.f3.params[j]? = some t → args[j]? = some v → Value.okWide Try.prog W .any base t v := hval0
  have hW' := hW
  obtain ⟨p, q, hA0, hV, rfl, hfz, hnd⟩ := hW
  have hA : DataW.TrodAll enc Try.prog W 0 (fun _ => true) true Try.f3.params.toList args.toList ds p := hA0
  rw [Try.params3] at hA hval
  obtain ⟨v0, vs0, d0, ds0, p0, q0, hargs, rfl, rfl, h0, r0⟩ := trodAll_cons hA
  obtain ⟨v1, vs1, d1, ds1, p1, q1, rfl, rfl, rfl, h1, r1⟩ := trodAll_cons r0
  obtain ⟨rfl, rfl, rfl⟩ := trodAll_nil r1
  obtain rfl : args = #[v0, v1] := by cases args; simp_all
  obtain ⟨rfl, rfl⟩ := trodVars_none hV
  have k0 := h0
  have lt0 : ∀ x ∈ p0, x.block < W.heap.size := by obtain ⟨m, hm⟩ := k0; exact DataW.trod_lt m _ _ _ hm
  have k1 := h1
  have lt1 : ∀ x ∈ p1, x.block < W.heap.size := by obtain ⟨m, hm⟩ := k1; exact DataW.trod_lt m _ _ _ hm
  obtain ⟨A0, c0, l0, rfl, hm0, hr0⟩ := open_refs (hval 0 22 v0 rfl rfl) h0
  obtain ⟨A1, c1, l1, rfl, hm1, hr1⟩ := open_bs (hval 1 23 v1 rfl rfl) h1
  clear hA0 hval0
  refine (walk_heapPlays W A0 c0 l0 hm0 hr0 A1 c1 l1 hm1 hr1).mono fun e W' ⟨he, bel⟩ => ?_
  subst he
  exact ⟨_, rfl, _, _, _, [], _, [], hW', trodAll_mk1 (shut_bool Try.underlying4 _), (trodAll_cons_mk (Below.trod laidOut (by kernel_rfl) (of_decide_eq_true (by kernel_rfl)) k0 bel lt0) (trodAll_cons_mk (Below.trod laidOut (by kernel_rfl) (of_decide_eq_true (by kernel_rfl)) k1 bel lt1) trodAll_mk0)), rfl, bel.frame _, fun h => by cases h⟩

theorem heapPlays_holds : Rows.HeapPlaysSaid :=
  OpenClaim.holds_of_wide 3 Try.f3 rfl rfl rfl rfl rfl rfl rfl ⟨rfl, rfl, rfl, rfl, rfl⟩ rfl rfl rfl rfl rfl (by kernel_rfl) Try.func3 (by kernel_rfl)
    (of_decide_eq_true (by kernel_rfl)) (by unfold Func.isWrapper; first | (rw [if_pos (by decide +kernel)]; kernel_rfl) | (rw [if_neg (by decide +kernel)]; exact ⟨rfl, rfl⟩))
    (fun os started H enc _ => heapPlays_lifted os started H enc)

#print axioms heapPlays_holds
end Go.Proofs.Ytcmbmocineegoaa
