/-
  A page anew.
  Conditions: there is a page that is free.
-/
import Derived.Test.YtnlolhlbpdmljaaGreatDoorPgrC
namespace Go.Proofs.YtnlolhlbpdmljaaGreatDoor
open Go.ChangeShapes Go.WideShapes Go.RowKit
/-- The first free one from 2 on. -/
def FreeAt (ns : List Nat) (i : Nat) : Prop := 2 ≤ i ∧ i < 240 ∧ mem ns i = false ∧ ∀ j, 2 ≤ j → j < i → mem ns j = true
theorem exists_free {ns : List Nat} {k : Nat} (hk : 2 ≤ k) (hk2 : k < 240) (hm : mem ns k = false) : ∃ i, FreeAt ns i := by
  have key : ∀ m, ∀ k, k ≤ m → 2 ≤ k → k < 240 → mem ns k = false → ∃ i, FreeAt ns i := by
    intro m
    induction m with
    | zero => intro k h1 h2; omega
    | succ m ih =>
      intro k h1 h2 h3 h4
      by_cases hall : ∀ j, 2 ≤ j → j < k → mem ns j = true
      · exact ⟨k, h2, h3, h4, hall⟩
      · simp only [Classical.not_forall] at hall
        obtain ⟨j, hj1, hj2, hj3⟩ := hall
        exact ih j (by omega) hj1 (by omega) (by simpa using hj3)
  exact key k k (Nat.le_refl _) hk hk2 hm
theorem free_of_cnt {ns : List Nat} (h0 : mem ns 0 = false) (hc : cnt ns 240 < 238) : ∃ i, FreeAt ns i := by
  by_cases h : ∃ k, 2 ≤ k ∧ k < 240 ∧ mem ns k = false
  · obtain ⟨k, h1, h2, h3⟩ := h
    exact exists_free h1 h2 h3
  · exfalso
    have hall : ∀ k, 2 ≤ k → k < 240 → mem ns k = true := by
      intro k h1 h2
      cases hm : mem ns k with
      | true => rfl
      | false => exact absurd ⟨k, h1, h2, hm⟩ h
    have key : ∀ m, 2 ≤ m → m ≤ 240 → m - 2 ≤ cnt ns m := by
      intro m
      induction m with
      | zero => intro h; omega
      | succ m ih =>
        intro h1 h2
        rcases Nat.lt_or_ge m 2 with h | h
        · omega
        · rw [cnt_succ, hall m h (by omega)]
          have := ih h (by omega)
          simp; omega
    have := key 240 (by omega) (by omega)
    have := h0
    omega
theorem first_free {ns : List Nat} (hs : Set30 ns) {i : Nat} (h : FreeAt ns i) (w : World) : Calls Tryz.prog 83 #[.agg (Bv ns), .int .i64 2, .int .i64 240] w fun e w' => e = .returned (.tuple #[.int .i64 (i : Int), .bool true]) ∧ Below w.heap.size w w' := by
  refine (first_any ns hs 2 240 w).mono ?_
  rintro e w' ⟨n, ok, rfl, hf, hb⟩
  refine ⟨?_, hb⟩
  obtain ⟨h1, h2, h3, h4⟩ := h
  rcases hf with ⟨rfl, k, rfl, hk, hk2, _, hk3, hk4⟩ | ⟨_, _, hall⟩
  · have : k = i := by
      rcases Nat.lt_trichotomy k i with h | h | h
      · have := h4 k (by omega) h; rw [hk3] at this; cases this
      · exact h
      · have := hk4 i (by omega) h; rw [h3] at this; cases this
    rw [this]
  · have := hall i h2 (by omega) (by omega)
    rw [h3] at this; cases this
section
variable {ρ : Operand → Value} {o : Oper}
theorem run_extract0 {x : Operand} (ho : o.op = .extract x 0) {u v : Value} (hx : ρ x = .tuple #[u, v]) (w : World) : (execOp ρ o).run Tryz.prog w = .ok (.value u) w := by
  unfold execOp; rw [ho]; simp [hx, go_sem]
theorem run_extract1 {x : Operand} (ho : o.op = .extract x 1) {u v : Value} (hx : ρ x = .tuple #[u, v]) (w : World) : (execOp ρ o).run Tryz.prog w = .ok (.value v) w := by
  unfold execOp; rw [ho]; simp [hx, go_sem]
end
set_option maxRecDepth 100000 in
set_option maxHeartbeats 2000000 in
theorem pnew_any {w : World} {B P d : Nat} {V : Nat → B8} {n : Nat} {s : SupT} {Fr Go : List Nat} (h : PAt w B P d V n s Fr Go) (l : B8) (hl : l.length ≤ 120) (hn : n < 100000) (i : Nat) (hi : FreeAt (bothP s.2.2 Fr) i) :
    Calls Tryz.prog 51 #[.pointer (some ⟨P, 0, none⟩), .string (strB l)] w fun e w' => e = .returned (.tuple #[.int .i64 (i : Int), .nilIface]) ∧ PAt w' B P d (upd V i (laidP 2 l)) (n + 1) s (withP Fr (i : Int)) Go ∧ KT B isPg w w' := by
  have HH := Lib.hid h
  have SU := Lib.hid h.su
  have SF := Lib.hid h.sf
  have SG := Lib.hid h.sg
  have PL := Lib.hid (row_lt h.obj)
  have P1 := Lib.hid h.obj
  have DL := Lib.hid h.dsk.low.2
  have BOTH := Lib.hid (fun w => both_any s.2.2 Fr h.su h.sf w)
  have FST := Lib.hid (fun w => first_free (h.su.both h.sf) hi w)
  have HI := Lib.hid hi.2.1
  have WITH := Lib.hid (fun w => with_any Fr (i : Int) w h.sf)
  have SF' := Lib.hid (h.sf.with (i : Int))
  have hsz : (strB l).size = l.length := strB_size l
  have hgt : decide ((120 : Int) < (l.length : Int)) = false := decide_eq_false (by omega)
  have ST := Lib.hid (show ∀ w', Below w.heap.size w w' → _ from fun w' hb => storeD (HH.out.below hb).dsk i 2 l HI.out (by omega) (by omega) hl hn)
  have SIZE := Lib.hid (show ∀ w', Below w.heap.size w w' → _ from fun w' hb => sizeD (HH.out.below hb).dsk)
  clear h hi
  go_enter Tryz.func51, Tryz.ntmps51
  go_wp2_with fail
  refine (pnone_any P w).mono ?_
  rintro e w1 ⟨rfl, rfl⟩
  go_upto_region 6 with fail
  have CP := Lib.hid (show ∀ w', Below w.heap.size w w' → w'.heap[P]? = some (.cells (pgl d s Fr Go).toArray 69 (0, 0)) from fun w' hb => (hb.block P PL.out).trans P1.out)
  refine r_region (fun w' => Below w.heap.size w w') (by kernel_rfl) (by kernel_rfl) (Below.refl _ _).drew ?_
  refine r_move_is rfl (.tmp 0) (.pointer (some ⟨P, 0, none⟩)) rfl rfl ?_
  simp only [Act.put, List.setIfInBounds_toArray, List.set_cons_succ, List.set_cons_zero]
  refine r_val rfl (fun w' hw' => run_nilc (x := .tmp 21) (a := ⟨P, 0, none⟩) rfl rfl w') ?_
  simp only [Act.put, List.setIfInBounds_toArray, List.set_cons_succ, List.set_cons_zero]
  refine r_val rfl (fun w' hw' => run_fld69_1 (x := .tmp 22) (d := P) rfl rfl w') ?_
  simp only [Act.put, List.setIfInBounds_toArray, List.set_cons_succ, List.set_cons_zero]
  refine r_val rfl (fun w' hw' => run_fld52i_2 (x := .tmp 23) (d := P) rfl rfl w') ?_
  simp only [Act.put, List.setIfInBounds_toArray, List.set_cons_succ, List.set_cons_zero]
  refine r_val rfl (fun w' hw' => run_ld_set (x := .tmp 24) rfl rfl SU.out (pg_used (CP.out w' hw'))) ?_
  simp only [Act.put, List.setIfInBounds_toArray, List.set_cons_succ, List.set_cons_zero]
  refine r_move_is rfl (.tmp 0) (.pointer (some ⟨P, 0, none⟩)) rfl rfl ?_
  simp only [Act.put, List.setIfInBounds_toArray, List.set_cons_succ, List.set_cons_zero]
  refine r_val rfl (fun w' hw' => run_nilc (x := .tmp 26) (a := ⟨P, 0, none⟩) rfl rfl w') ?_
  simp only [Act.put, List.setIfInBounds_toArray, List.set_cons_succ, List.set_cons_zero]
  refine r_val rfl (fun w' hw' => run_fld69_2 (x := .tmp 27) (d := P) rfl rfl w') ?_
  simp only [Act.put, List.setIfInBounds_toArray, List.set_cons_succ, List.set_cons_zero]
  refine r_val rfl (fun w' hw' => run_ld_set (x := .tmp 28) rfl rfl SF.out (pg_fresh (CP.out w' hw') SU.out)) ?_
  simp only [Act.put, List.setIfInBounds_toArray, List.set_cons_succ, List.set_cons_zero]
  refine r_call rfl (args := #[(.agg (Bv s.2.2)), (.agg (Bv Fr))]) (fun w' hw' => run_call2 (u := .agg (Bv s.2.2)) (v := .agg (Bv Fr)) rfl Tryz.call60 rfl rfl w') (fun w' hw' => (BOTH.out w').mono (fun e w'' ⟨he, hb⟩ => ⟨he, hw'.trans (hb.mono hw'.size)⟩)) ?_
  simp only [Act.put, List.setIfInBounds_toArray, List.set_cons_succ, List.set_cons_zero]
  refine r_move_is rfl (.tmp 0) (.pointer (some ⟨P, 0, none⟩)) rfl rfl ?_
  simp only [Act.put, List.setIfInBounds_toArray, List.set_cons_succ, List.set_cons_zero]
  refine r_val rfl (fun w' hw' => run_nilc (x := .tmp 31) (a := ⟨P, 0, none⟩) rfl rfl w') ?_
  simp only [Act.put, List.setIfInBounds_toArray, List.set_cons_succ, List.set_cons_zero]
  refine r_val rfl (fun w' hw' => run_fld69_0 (x := .tmp 32) (d := P) rfl rfl w') ?_
  simp only [Act.put, List.setIfInBounds_toArray, List.set_cons_succ, List.set_cons_zero]
  refine r_val rfl (fun w' hw' => run_load_ptr (x := .tmp 33) rfl rfl (pg_cells (CP.out w' hw')).1) ?_
  simp only [Act.put, List.setIfInBounds_toArray, List.set_cons_succ, List.set_cons_zero]
  refine r_call rfl (args := #[(.pointer (some ⟨d, 0, none⟩))]) (fun w' hw' => run_call1 (u := .pointer (some ⟨d, 0, none⟩)) rfl Tryz.call32 rfl w') (fun w' hw' => (SIZE.out w' hw').mono (fun e w'' ⟨he, hb⟩ => ⟨he, hb ▸ hw'⟩)) ?_
  simp only [Act.put, List.setIfInBounds_toArray, List.set_cons_succ, List.set_cons_zero]
  refine r_call rfl (args := #[(.agg (Bv (bothP s.2.2 Fr))), (.int .i64 2), (.int .i64 240)]) (fun w' hw' => run_call3 (u := .agg (Bv (bothP s.2.2 Fr))) (v := .int .i64 2) (t := .int .i64 240) rfl Tryz.call83 rfl rfl rfl w') (fun w' hw' => (FST.out w').mono (fun e w'' ⟨he, hb⟩ => ⟨he, hw'.trans (hb.mono hw'.size)⟩)) ?_
  simp only [Act.put, List.setIfInBounds_toArray, List.set_cons_succ, List.set_cons_zero]
  refine r_move_is rfl (.tmp 36) (.tuple #[.int .i64 (i : Int), .bool true]) rfl rfl ?_
  simp only [Act.put, List.setIfInBounds_toArray, List.set_cons_succ, List.set_cons_zero]
  refine r_val rfl (fun w' hw' => run_extract0 (x := .tmp 20) rfl rfl w') ?_
  simp only [Act.put, List.setIfInBounds_toArray, List.set_cons_succ, List.set_cons_zero]
  refine r_val rfl (fun w' hw' => run_extract1 (x := .tmp 20) rfl rfl w') ?_
  simp only [Act.put, List.setIfInBounds_toArray, List.set_cons_succ, List.set_cons_zero]
  refine r_val rfl (fun w' hw' => run_assign_is (.tmp 37) (.int .i64 (i : Int)) rfl rfl w') ?_
  simp only [Act.put, List.setIfInBounds_toArray, List.set_cons_succ, List.set_cons_zero]
  refine r_val rfl (fun w' hw' => run_assign_is (.tmp 38) (.bool true) rfl rfl w') ?_
  simp only [Act.put, List.setIfInBounds_toArray, List.set_cons_succ, List.set_cons_zero]
  refine r_nil ?_
  intro w3 hw3
  have B3 := Lib.hid hw3
  obtain ⟨c0, c1, c2⟩ := pg_cells (CP.out w3 hw3)
  clear hw3
  go_wp2_with fail
  refine (ST.out w3 B3.out).mono ?_
  rintro e w4 ⟨rfl, hd4, hk4⟩
  have K4 := Lib.hid ((KT.of_below B3.out B isPg).trans (hk4.more (fun t => isPg_disk)))
  have P4 := Lib.hid (hk4.cells (CP.out w3 B3.out) rfl)
  have D4 := Lib.hid hd4
  clear hd4 hk4 c0 c1 c2
  go_wp2_with (first | (go_at_call 84; refine (WITH.out _).mono ?_; rintro e w5 ⟨rfl, hb5⟩; have B5 := Lib.hid hb5; have P5 := Lib.hid ((hb5.block P (row_lt P4.out)).trans P4.out); have D5 := Lib.hid (D4.out.below hb5); clear hb5) | (refine l_is (.load 50 (.tmp 56)) rfl rfl (run_ld_set (x := .tmp 56) rfl rfl SF.out (pg_fresh P4.out SU.out)) ?_) | (refine wpList_store_mid50 rfl (.tmp 61) (.tmp 59) rfl rfl P 33 SF'.out rfl rfl (pg_there P5.out SU.out SF.out SG.out 33 30 (by omega)) ?_))
  go_ret2
  exact ⟨rfl, ⟨pg_set_fresh P5.out SU.out SF.out SG.out SF'.out, D5.out.kept (setCells_kept _ _ _ _) P5.out, SU.out, SF'.out, SG.out, HH.out.low⟩, (K4.out.trans (KT.of_below B5.out B isPg)).trans (kt_setCells P5.out HH.out.low rfl _)⟩
end Go.Proofs.YtnlolhlbpdmljaaGreatDoor
