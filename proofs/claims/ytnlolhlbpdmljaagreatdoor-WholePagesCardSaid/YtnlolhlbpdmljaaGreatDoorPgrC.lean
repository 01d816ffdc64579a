/-
  Pages loaded and dropped.
  Conditions: the page is in use.
-/
import Derived.Test.YtnlolhlbpdmljaaGreatDoorPgrB
namespace Go.Proofs.YtnlolhlbpdmljaaGreatDoor
open Go.ChangeShapes Go.WideShapes Go.RowKit
set_option maxRecDepth 100000 in
set_option maxHeartbeats 2000000 in
theorem pload_any {w : World} {B P d : Nat} {V : Nat → B8} {n : Nat} {s : SupT} {Fr Go : List Nat} (h : PAt w B P d V n s Fr Go) (i : Nat) (hi : i < 240) (hm : (mem s.2.2 i || mem Fr i) = true) (l : B8) (hl : l.length ≤ 120) (hV : V i = laidP 2 l) :
    Calls Tryz.prog 74 #[.pointer (some ⟨P, 0, none⟩), .int .i64 (i : Int)] w fun e w' => e = .returned (.tuple #[.string (strB l), .nilIface]) ∧ Below w.heap.size w w' := by
  have HH := Lib.hid h
  have SU := Lib.hid h.su
  have SF := Lib.hid h.sf
  have PL := Lib.hid (row_lt h.obj)
  have P1 := Lib.hid h.obj
  have HASM := Lib.hid (show hasP (bothP s.2.2 Fr) (i : Int) = true by rw [hasP_nat hi, mem_both h.su h.sf i hi]; exact hm)
  have BOTH := Lib.hid (fun w => both_any s.2.2 Fr h.su h.sf w)
  have HAS := Lib.hid (fun w => has_any (bothP s.2.2 Fr) (i : Int) w (h.su.both h.sf))
  rw [HASM.out] at HAS
  have LD := Lib.hid (show ∀ w', Below w.heap.size w w' → _ from fun w' hb => loadD (HH.out.below hb).dsk i 2 l hi (by omega) (by omega) hl hV)
  clear h hm hV
  go_enter Tryz.func74, Tryz.ntmps74
  go_wp2_with fail
  refine (pnone_any P w).mono ?_
  rintro e w1 ⟨rfl, rfl⟩
  go_upto_region 4 with fail
  have CP := Lib.hid (show ∀ w', Below w.heap.size w w' → w'.heap[P]? = some (.cells (pgl d s Fr Go).toArray 69 (0, 0)) from fun w' hb => (hb.block P PL.out).trans P1.out)
  refine r_region (fun w' => Below w.heap.size w w') (by kernel_rfl) (by kernel_rfl) (Below.refl _ _).drew ?_
  refine r_move_is rfl (.tmp 0) (.pointer (some ⟨P, 0, none⟩)) rfl rfl ?_
  simp only [Act.put, List.setIfInBounds_toArray, List.set_cons_succ, List.set_cons_zero]
  refine r_val rfl (fun w' hw' => run_nilc (x := .tmp 12) (a := ⟨P, 0, none⟩) rfl rfl w') ?_
  simp only [Act.put, List.setIfInBounds_toArray, List.set_cons_succ, List.set_cons_zero]
  refine r_val rfl (fun w' hw' => run_fld69_1 (x := .tmp 13) (d := P) rfl rfl w') ?_
  simp only [Act.put, List.setIfInBounds_toArray, List.set_cons_succ, List.set_cons_zero]
  refine r_val rfl (fun w' hw' => run_fld52i_2 (x := .tmp 14) (d := P) rfl rfl w') ?_
  simp only [Act.put, List.setIfInBounds_toArray, List.set_cons_succ, List.set_cons_zero]
  refine r_val rfl (fun w' hw' => run_ld_set (x := .tmp 15) rfl rfl SU.out (pg_used (CP.out w' hw'))) ?_
  simp only [Act.put, List.setIfInBounds_toArray, List.set_cons_succ, List.set_cons_zero]
  refine r_move_is rfl (.tmp 0) (.pointer (some ⟨P, 0, none⟩)) rfl rfl ?_
  simp only [Act.put, List.setIfInBounds_toArray, List.set_cons_succ, List.set_cons_zero]
  refine r_val rfl (fun w' hw' => run_nilc (x := .tmp 17) (a := ⟨P, 0, none⟩) rfl rfl w') ?_
  simp only [Act.put, List.setIfInBounds_toArray, List.set_cons_succ, List.set_cons_zero]
  refine r_val rfl (fun w' hw' => run_fld69_2 (x := .tmp 18) (d := P) rfl rfl w') ?_
  simp only [Act.put, List.setIfInBounds_toArray, List.set_cons_succ, List.set_cons_zero]
  refine r_val rfl (fun w' hw' => run_ld_set (x := .tmp 19) rfl rfl SF.out (pg_fresh (CP.out w' hw') SU.out)) ?_
  simp only [Act.put, List.setIfInBounds_toArray, List.set_cons_succ, List.set_cons_zero]
  refine r_call rfl (args := #[(.agg (Bv s.2.2)), (.agg (Bv Fr))]) (fun w' hw' => run_call2 (u := .agg (Bv s.2.2)) (v := .agg (Bv Fr)) rfl Tryz.call60 rfl rfl w') (fun w' hw' => (BOTH.out w').mono (fun e w'' ⟨he, hb⟩ => ⟨he, hw'.trans (hb.mono hw'.size)⟩)) ?_
  simp only [Act.put, List.setIfInBounds_toArray, List.set_cons_succ, List.set_cons_zero]
  refine r_move_is rfl (.tmp 1) (.int .i64 (i : Int)) rfl rfl ?_
  simp only [Act.put, List.setIfInBounds_toArray, List.set_cons_succ, List.set_cons_zero]
  refine r_call rfl (args := #[(.agg (Bv (bothP s.2.2 Fr))), (.int .i64 (i : Int))]) (fun w' hw' => run_call2 (u := .agg (Bv (bothP s.2.2 Fr))) (v := .int .i64 (i : Int)) rfl Tryz.call17 rfl rfl w') (fun w' hw' => (HAS.out w').mono (fun e w'' ⟨he, hb⟩ => ⟨he, hw'.trans (hb.mono hw'.size)⟩)) ?_
  simp only [Act.put, List.setIfInBounds_toArray, List.set_cons_succ, List.set_cons_zero]
  refine r_val rfl (fun w' hw' => run_not_is (x := .tmp 23) (b := true) rfl rfl false rfl w') ?_
  simp only [Act.put, List.setIfInBounds_toArray, List.set_cons_succ, List.set_cons_zero]
  refine r_nil ?_
  intro w3 hw3
  have B3 := Lib.hid hw3
  obtain ⟨c0, c1, c2⟩ := pg_cells (CP.out w3 hw3)
  clear hw3
  go_wp2_with fail
  refine (LD.out w3 B3.out).mono ?_
  rintro e w4 ⟨rfl, hb4⟩
  have B4 := Lib.hid (B3.out.trans (hb4.mono B3.out.size))
  clear hb4
  go_wp2_with fail
  go_ret2
  exact ⟨rfl, B4.out⟩
/-- Cells turned inside the pager's block. -/
theorem kt_setCells {w : World} {B d j : Nat} {T : TypeId → Bool} {cs : Array Value} {t : TypeId} {fr : Nat × Nat} (h : w.heap[d]? = some (.cells cs t fr)) (hB : B ≤ d) (hT : T t = true) (vs : List Value) : KT B T w (w.setCells d j vs) :=
  KT.one h hB hT (setCells_kept w d j vs).os (setCells_kept w d j vs).tape (setCells_kept w d j vs).output (setCells_kept w d j vs).size (fun k hk hne => (setCells_kept w d j vs).block k hk hne)
theorem Dsk.kept {w w' : World} {B d P : Nat} {V : Nat → B8} {n : Nat} (h : Dsk w B d V n) (k : Kept (· = P) w w') {cs : Array Value} (hP : w.heap[P]? = some (.cells cs 69 (0, 0))) : Dsk w' B d V n := by
  obtain ⟨g, v, F, L, h1, h2⟩ := h
  have hd : d ≠ P := fun e => by have := h1.obj; unfold DObj at this; rw [e, hP] at this; injection this with this; injection this with _ this _; cases this
  have hg : g ≠ P := fun e => by have := h1.row; rw [e, hP] at this; injection this with this; injection this with _ this _; cases this
  exact ⟨g, v, F, L, ⟨h1.obj.at (k.block d (row_lt h1.obj) hd), (k.block g (row_lt h1.row) hg).trans h1.row, h1.len, h1.page, own_row h1.own (fun q hq => k.block q (own_lt h1.own hq).1 (fun e => by subst e; exact far_of h1.own hP (by decide) hq.symm)), h1.small, h1.lpage, h1.low⟩, h2⟩
section
variable {w : World} {P d : Nat} {s : SupT} {Fr Go : List Nat}
theorem pg_len (hu : Set30 s.2.2) (hf : Set30 Fr) (hg : Set30 Go) : (pgl d s Fr Go).length = 93 := by unfold pgl; simp [sul_length hu, bvl_length, hf.len, hg.len]
theorem pg_there (h : w.heap[P]? = some (.cells (pgl d s Fr Go).toArray 69 (0, 0))) (hu : Set30 s.2.2) (hf : Set30 Fr) (hg : Set30 Go) (k n : Nat) (hk : k + n ≤ 93) : w.there P k n := by
  intro j hj
  refine ⟨?_, frozen_of_row w P _ _ 69 h⟩
  rw [cell_of_row w P _ _ 69 (0, 0) h]
  have : k + j < (pgl d s Fr Go).toArray.size := by rw [List.size_toArray, pg_len hu hf hg]; omega
  rw [Array.getElem?_eq_getElem this]; rfl
theorem pg_set_fresh (h : w.heap[P]? = some (.cells (pgl d s Fr Go).toArray 69 (0, 0))) (hu : Set30 s.2.2) (hf : Set30 Fr) (hg : Set30 Go) {Fr' : List Nat} (hf' : Set30 Fr') : (w.setCells P 33 (bvl Fr')).heap[P]? = some (.cells (pgl d s Fr' Go).toArray 69 (0, 0)) := by
  rw [setCells_exact (bvl Fr') 33 w (pgl d s Fr Go) (by rw [pg_len hu hf hg, bvl_length, hf'.len]; omega) h]
  refine congrArg (fun l : List Value => some (Obj.cells l.toArray 69 (0, 0))) ?_
  have e : pgl d s Fr Go = ([.pointer (some ⟨d, 0, none⟩)] ++ sul s) ++ (bvl Fr ++ bvl Go) := by unfold pgl; simp
  have l1 : ([.pointer (some ⟨d, 0, none⟩)] ++ sul s : List Value).length = 33 := by simp [sul_length hu]
  rw [e, List.take_left' l1, bvl_length, hf'.len, show 33 + 30 = 33 + (bvl Fr).length by rw [bvl_length, hf.len], ← List.drop_drop, List.drop_left' l1, List.drop_left' rfl]
  unfold pgl; simp
theorem pg_set_gone (h : w.heap[P]? = some (.cells (pgl d s Fr Go).toArray 69 (0, 0))) (hu : Set30 s.2.2) (hf : Set30 Fr) (hg : Set30 Go) {Go' : List Nat} (hg' : Set30 Go') : (w.setCells P 63 (bvl Go')).heap[P]? = some (.cells (pgl d s Fr Go').toArray 69 (0, 0)) := by
  rw [setCells_exact (bvl Go') 63 w (pgl d s Fr Go) (by rw [pg_len hu hf hg, bvl_length, hg'.len]; omega) h]
  refine congrArg (fun l : List Value => some (Obj.cells l.toArray 69 (0, 0))) ?_
  have e : pgl d s Fr Go = ([.pointer (some ⟨d, 0, none⟩)] ++ sul s ++ bvl Fr) ++ bvl Go := by unfold pgl; simp
  have l1 : ([.pointer (some ⟨d, 0, none⟩)] ++ sul s ++ bvl Fr : List Value).length = 63 := by simp [sul_length hu, bvl_length, hf.len]
  rw [List.drop_eq_nil_of_le (by rw [pg_len hu hf hg, bvl_length, hg'.len]; omega), e, List.take_left' l1]
  unfold pgl; simp
end
theorem run_store_mid50 {ρ : Operand → Value} {o : Oper} {x y : Operand} (ho : o.op = .store 50 x y) {P k : Nat} {U : List Nat} (hU : Set30 U) {w : World} (hx : ρ x = .pointer (some ⟨P, k, none⟩)) (hy : ρ y = .agg (Bv U)) (ht : w.there P k 30) : (execOp ρ o).run Tryz.prog w = .ok .skip (w.setCells P k (bvl U)) := by
  have hr := run_storeAt_mid (P := Tryz.prog) w P k 50 (Bv U) (by rw [Bv_sz hU]; exact ht) (by rw [Bv_sz hU]; exact size50) (Bv_one U)
  unfold execOp
  rw [ho]
  simp only [hx, hy, Sem.run_bind, hr, Result.andThen_ok, Sem.run_pure]
  rfl
theorem wpList_store_mid50 {ops : Array Oper} {rest : List Oper} {o : Oper} {a : Act} {w : World} {Q : Exit → Act → World → Prop} (hgd : o.guard = none) (x y : Operand) (ho : o.op = .store 50 x y) (hd : o.dst = none) (P k : Nat) {U : List Nat} (hU : Set30 U)
    (hx : a.eval x = .pointer (some ⟨P, k, none⟩)) (hy : a.eval y = .agg (Bv U)) (ht : w.there P k 30) (h : wpList Tryz.prog ops Q rest a (w.setCells P k (bvl U))) : wpList Tryz.prog ops Q (o :: rest) a w :=
  wpList_plain hgd fun K hK => by
    unfold Oper.wp
    rw [run_store_mid50 ho hU hx hy ht]
    refine hK _ _ ?_
    rw [hd]
    exact h
set_option maxRecDepth 100000 in
set_option maxHeartbeats 2000000 in
theorem pdrop_any {w : World} {B P d : Nat} {V : Nat → B8} {n : Nat} {s : SupT} {Fr Go : List Nat} (h : PAt w B P d V n s Fr Go) (i : Nat) (hi : i < 240) (hu : mem s.2.2 i = true) (hf : mem Fr i = false) (hg : mem Go i = false) :
    Calls Tryz.prog 53 #[.pointer (some ⟨P, 0, none⟩), .int .i64 (i : Int)] w fun e w' => e = .returned .nilIface ∧ PAt w' B P d V n s Fr (withP Go (i : Int)) ∧ KT B isPg w w' := by
  have HH := Lib.hid h
  have SU := Lib.hid h.su
  have SF := Lib.hid h.sf
  have SG := Lib.hid h.sg
  have USED := Lib.hid (used_any h)
  have HAS := Lib.hid (fun w => has_any (usedP s.2.2 Fr Go) (i : Int) w (usedP_set h.su h.sf))
  rw [show hasP (usedP s.2.2 Fr Go) (i : Int) = true by rw [hasP_nat hi, mem_usedP h.su h.sf hi, hu, hg]; rfl] at HAS
  have HASF := Lib.hid (fun w => has_any Fr (i : Int) w h.sf)
  rw [show hasP Fr (i : Int) = false by rw [hasP_nat hi]; exact hf] at HASF
  have WITH := Lib.hid (fun w => with_any Go (i : Int) w h.sg)
  have SG' := Lib.hid (h.sg.with (i : Int))
  clear h hu hf hg
  go_enter Tryz.func53, Tryz.ntmps53
  go_wp2_with fail
  refine (pnone_any P w).mono ?_
  rintro e w1 ⟨rfl, rfl⟩
  go_wp2_with fail
  refine USED.out.mono ?_
  rintro e w2 ⟨rfl, hb2⟩
  have B2 := Lib.hid hb2
  clear hb2
  go_wp2_with fail
  refine (HAS.out _).mono ?_
  rintro e w3 ⟨rfl, hb3⟩
  have B3 := Lib.hid (B2.out.trans (hb3.mono B2.out.size))
  have P3 := Lib.hid (HH.out.below B3.out)
  clear hb3
  go_wp2_with (first | (go_at_call 17; refine (HASF.out _).mono ?_; rintro e w4 ⟨rfl, hb4⟩; have B4 := Lib.hid (B3.out.trans (hb4.mono B3.out.size)); have P4 := Lib.hid (HH.out.below B4.out); clear hb4) | (go_at_call 84; refine (WITH.out _).mono ?_; rintro e w5 ⟨rfl, hb5⟩; have B5 := Lib.hid (B4.out.trans (hb5.mono B4.out.size)); have P5 := Lib.hid (HH.out.below B5.out); clear hb5) | (refine l_is (.load 50 (.tmp 31)) rfl rfl (run_ld_set (x := .tmp 31) rfl rfl SF.out (pg_fresh P3.out.obj SU.out)) ?_) | (refine l_is (.load 50 (.tmp 14)) rfl rfl (run_ld_set (x := .tmp 14) rfl rfl SG.out (pg_gone P4.out.obj SU.out SF.out)) ?_) | (refine wpList_store_mid50 rfl (.tmp 19) (.tmp 17) rfl rfl P 63 SG'.out rfl rfl (pg_there P5.out.obj SU.out SF.out SG.out 63 30 (by omega)) ?_))
  go_ret
  exact ⟨rfl, ⟨pg_set_gone P5.out.obj SU.out SF.out SG.out SG'.out, P5.out.dsk.kept (setCells_kept _ _ _ _) P5.out.obj, SU.out, SF.out, SG'.out, HH.out.low⟩, (KT.of_below B5.out B isPg).trans (kt_setCells P5.out.obj HH.out.low rfl _)⟩
end Go.Proofs.YtnlolhlbpdmljaaGreatDoor
