/-
  Disk.Flush, disk.New.
  Conditions: none.
-/
import Derived.Test.YtnlolhlbpdmljaaGreatDoorDiskC
namespace Go.Proofs.YtnlolhlbpdmljaaGreatDoor
open Go.ChangeShapes Go.WideShapes Go.RowKit

/-- The firm sectors behind a flush. -/
def fl (F : List B8) (L : List (Nat × B8)) : List B8 := L.foldl (fun F x => F.set x.1 x.2) F
theorem fl_length (L : List (Nat × B8)) : ∀ F : List B8, (fl F L).length = F.length := by
  unfold fl
  induction L with
  | nil => intro F; rfl
  | cons x L ih => intro F; rw [List.foldl_cons, ih, List.length_set]
theorem fl_take {L : List (Nat × B8)} {k : Nat} (hk : k < L.length) (F : List B8) : fl F (L.take (k + 1)) = (fl F (L.take k)).set L[k].1 L[k].2 := by
  have e : L.take (k + 1) = L.take k ++ [L[k]] := by rw [List.take_add_one, List.getElem?_eq_getElem hk]; rfl
  rw [e]; unfold fl; rw [List.foldl_append]; rfl
theorem fl_page {F : List B8} (hF : ∀ p ∈ F, p.length = 128) : ∀ (L : List (Nat × B8)), (∀ x ∈ L, x.1 < 240 ∧ x.2.length = 128) → ∀ p ∈ fl F L, p.length = 128 := by
  intro L
  unfold fl
  induction L generalizing F with
  | nil => intro _; exact hF
  | cons x L ih =>
    intro hL
    rw [List.foldl_cons]
    refine ih ?_ (fun y hy => hL y (by simp [hy]))
    intro p hp
    rcases List.mem_or_eq_of_mem_set hp with h | rfl
    · exact hF p h
    · exact (hL x (by simp)).2
theorem view_fl (i : Nat) : ∀ (L : List (Nat × B8)) (F : List B8), (∀ x ∈ L, x.1 < F.length) → view (fl F L) [] i = view F L i := by
  intro L
  induction L with
  | nil => intro F _; rfl
  | cons x L ih =>
    intro F h
    have h1 := ih (F.set x.1 x.2) (fun y hy => by rw [List.length_set]; exact h y (by simp [hy]))
    have e : fl F (x :: L) = fl (F.set x.1 x.2) L := rfl
    rw [e, h1]
    unfold view vw
    rw [List.foldl_cons]
    congr 1
    rw [List.getD_eq_getElem?_getD, List.getElem?_set, List.getD_eq_getElem?_getD]
    have hx := h x (by simp)
    by_cases e1 : x.1 = i
    · subst e1; simp [hx]
    · simp [e1]
theorem setCells_exact {g : Nat} {t : TypeId} : ∀ (vs : List Value) (o : Nat) (w : World) (cur : List Value), o + vs.length ≤ cur.length → w.heap[g]? = some (.cells cur.toArray t (0, 0)) →
    (w.setCells g o vs).heap[g]? = some (.cells (cur.take o ++ vs ++ cur.drop (o + vs.length)).toArray t (0, 0)) := by
  intro vs
  induction vs with
  | nil => intro o w cur _ h; show w.heap[g]? = _; rw [h]; simp
  | cons v r ih =>
    intro o w cur hl h
    rw [List.length_cons] at hl
    have h1 : (w.setCell ⟨g, o, none⟩ v).heap[g]? = some (.cells (cur.set o v).toArray t (0, 0)) := by
      rw [heap_setCell_row h]; simp
    have h2 := ih (o + 1) (w.setCell ⟨g, o, none⟩ v) (cur.set o v) (by rw [List.length_set]; omega) h1
    refine h2.trans ?_
    congr 3
    have e1 : (cur.set o v).take (o + 1) = cur.take o ++ [v] := by
      rw [List.take_add_one, List.getElem?_set, if_pos rfl, if_pos (by omega), List.take_set_of_le (Nat.le_refl _)]; rfl
    have e2 : (cur.set o v).drop (o + 1 + r.length) = cur.drop (o + (v :: r).length) := by
      rw [List.drop_set_of_lt (by omega), List.length_cons]
      congr 1; omega
    rw [e1, e2]
    simp
theorem run_store_page {ρ : Operand → Value} {o : Oper} {x y : Operand} (ho : o.op = .store 39 x y) {g i : Nat} {p : B8} {F : List B8} (hF : ∀ q ∈ F, q.length = 128) (hi : i < F.length) (hp : p.length = 128) {w : World}
    (hx : ρ x = .pointer (some ⟨g, i * 128, none⟩)) (hy : ρ y = .agg (cellsB p).toArray) (h : w.heap[g]? = some (.cells (pcells F).toArray 39 (0, 0))) :
    (execOp ρ o).run Tryz.prog w = .ok .skip (w.setCells g (i * 128) (cellsB p)) ∧ (w.setCells g (i * 128) (cellsB p)).heap[g]? = some (.cells (pcells (F.set i p)).toArray 39 (0, 0)) := by
  have hm : ∀ q ∈ F.map cellsB, q.length = 128 := fun x hx => by
    obtain ⟨q, hq, rfl⟩ := List.mem_map.1 hx
    rw [cellsB_length, hF q hq]
  have hl : (pcells F).length = F.length * 128 := by unfold pcells; rw [flat_length _ hm, List.length_map]
  have hcl : (cellsB p).length = 128 := by rw [cellsB_length, hp]
  have hb : i * 128 + 128 ≤ F.length * 128 := by omega
  have ht : w.there g (i * 128) (cellsB p).toArray.size := by
    intro j hj
    rw [List.size_toArray, hcl] at hj
    refine ⟨?_, frozen_of_row w g _ _ 39 h⟩
    rw [cell_of_row w g _ _ 39 (0, 0) h]
    have : i * 128 + j < (pcells F).toArray.size := by rw [List.size_toArray, hl]; omega
    rw [Array.getElem?_eq_getElem this]; rfl
  have hr := run_storeAt_mid (P := Tryz.prog) w g (i * 128) 39 (cellsB p).toArray ht (by rw [List.size_toArray, hcl]; exact size39) (all_oneCell_toArray (cellsB_one p))
  refine ⟨?_, ?_⟩
  · unfold execOp
    rw [ho]
    simp only [hx, hy, Sem.run_bind, hr, Result.andThen_ok, Sem.run_pure]
  · rw [setCells_exact (cellsB p) (i * 128) w (pcells F) (by rw [hcl, hl]; omega) h, hcl]
    refine congrArg (fun l : List Value => some (Obj.cells l.toArray 39 (0, 0))) ?_
    unfold pcells
    rw [List.map_set, flat_set (F.map cellsB) hm i _ hcl (by rw [List.length_map]; exact hi)]
theorem wpList_store_slc {ops : Array Oper} {rest : List Oper} {o : Oper} {a : Act} {w : World} {Q : Exit → Act → World → Prop} {t : TypeId} (hs : (Tryz.prog.info? t).map (·.size) = some 1) (hgd : o.guard = none) (x : Operand) {y : Operand} (ho : o.op = .store t x y) (hdst : o.dst = none) {d j : Nat} {A : Option Addr} {n c : Nat} {cs : Array Value} {t0 : TypeId}
    (hx : a.eval x = .pointer (some ⟨d, j, none⟩)) (hy : a.eval y = .slice A n c) (h : w.heap[d]? = some (.cells cs t0 (0, 0))) (hj : j < cs.size) (hk : wpList Tryz.prog ops Q rest a (w.setCell ⟨d, j, none⟩ (.slice A n c))) : wpList Tryz.prog ops Q (o :: rest) a w :=
  wpList_plain hgd fun K hK => by
    unfold Oper.wp
    rw [run_store_slc hs ho hx hy h hj]
    refine hK _ _ ?_
    rw [hdst]
    exact hk
section
variable {ρ : Operand → Value} {o : Oper}
theorem run_fld83_0 {x : Operand} (ho : o.op = .fieldAddr 83 x 0) {d : Nat} (hx : ρ x = .pointer (some ⟨d, 0, none⟩)) (w : World) : (execOp ρ o).run Tryz.prog w = .ok (.value (.pointer (some ⟨d, 0, none⟩))) w := by
  unfold execOp; rw [ho]; simp [hx, go_sem]
theorem run_fld83_1 {x : Operand} (ho : o.op = .fieldAddr 83 x 1) {d : Nat} (hx : ρ x = .pointer (some ⟨d, 0, none⟩)) (w : World) : (execOp ρ o).run Tryz.prog w = .ok (.value (.pointer (some ⟨d, 1, none⟩))) w := by
  unfold execOp; rw [ho]; simp [hx, go_sem]
theorem run_load_mid39 {x : Operand} (ho : o.op = .load 39 x) {X : Nat} (hx : ρ x = .pointer (some ⟨X, 1, none⟩)) {u : Value} {p : B8} {t : TypeId} {w : World} (h : w.heap[X]? = some (.cells (u :: cellsB p).toArray t (0, 0))) (hp : p.length = 128) : (execOp ρ o).run Tryz.prog w = .ok (.value (.agg (cellsB p).toArray)) w := by
  have hr := run_loadAt_mid (P := Tryz.prog) w X 1 39 (cellsB p) _ (fun j v hj => by
    rw [cell_of_row w X _ _ t (0, 0) h, Nat.add_comm 1 j]
    simpa using hj) Tryz.underlying39 rfl (by rw [cellsB_length, hp]; exact size39)
  unfold execOp
  rw [ho]
  simp only [hx, Sem.run_bind, hr, Result.andThen_ok, Sem.run_pure]
theorem run_at62 {x y : Operand} (ho : o.op = .indexAddr 62 x y) {g i : Nat} (hx : ρ x = .slice (some ⟨g, 0, none⟩) 240 240) (hy : ρ y = .int .i64 (i : Int)) (hi : i < 240) (w : World) : (execOp ρ o).run Tryz.prog w = .ok (.value (.pointer (some ⟨g, i * 128, none⟩))) w := by
  unfold execOp
  rw [ho]
  have h : (Instr.indexAt 62 (.slice (some ⟨g, 0, none⟩) 240 240) (.int .i64 (i : Int))).run Tryz.prog w = .ok (.pointer (some ⟨g, i * 128, none⟩)) w := by
    simp [Instr.indexAt, asIntOf, Sem.run_bind, run_underlying Tryz.underlying62, run_size size39, hi, addr_add]
  simp only [hx, hy, Sem.run_bind, h, Result.andThen_ok, Sem.run_pure]
end
set_option maxRecDepth 100000 in
set_option maxHeartbeats 1000000 in
theorem flush_any (w : World) (B d g : Nat) (v : Value) (F : List B8) (L : List (Nat × B8)) (H : DiskAt w B d g v F L) :
    Calls Tryz.prog 40 #[.pointer (some ⟨d, 0, none⟩)] w fun e w' => e = .returned .nilIface ∧ DiskAt w' B d g (.slice none 0 0) (fl F L) [] ∧ KT B isDisk w w' := by
  obtain ⟨A, c, rfl⟩ := own_slice H.own
  have H1 := Lib.hid H
  have MAY := Lib.hid (dmay_any w d g _ 0 (by omega) H.obj)
  obtain ⟨c0, c1, c2, _⟩ := dcell H.obj
  have hdg : d ≠ g := by
    intro e1; have h1 := H.obj; unfold DObj at h1; rw [e1, H.row] at h1; injection h1 with h1; injection h1 with _ h1; cases h1
  have DG := Lib.hid hdg
  have hsm := H.small
  clear H hdg
  go_enter Tryz.func40, Tryz.ntmps40
  go_wp2_with fail
  refine MAY.out.mono ?_
  rintro e w1 ⟨rfl, rfl⟩
  go_wp2_with fail
  go_loopw [16] (fun i' wr => ∃ k : Nat, i' = .int .i64 k ∧ k ≤ L.length ∧ wr.heap[g]? = some (.cells (pcells (fl F (L.take k))).toArray 39 (0, 0)) ∧ Kept (· = g) w wr) (fun i' _ => L.length - (intOf i').toNat)
  case atStart => exact ⟨0, rfl, by omega, H1.out.row, Kept.refl _ _⟩
  case round =>
    obtain ⟨k, rfl, hk, hq, hb⟩ := hrel
    have QQ := Lib.hid hq
    have KB := Lib.hid hb
    have D4 := Lib.hid (show DObj wr d (.slice (some ⟨g, 0, none⟩) 240 240) (.slice A L.length c) from H1.out.obj.at (hb.block d (row_lt H1.out.obj) DG.out))
    have O4 := Lib.hid (show wr.ownsRow B 83 129 (.slice A L.length c) L.length (lcells L) from own_row H1.out.own (fun k hk => hb.block k (own_lt H1.out.own hk).1 (fun e => by
      subst e
      exact far_of H1.out.own H1.out.row (by decide) hk.symm)))
    obtain ⟨c0', c1', c2', _⟩ := dcell D4.out
    clear hq hb
    by_cases hlt : k < L.length
    · obtain ⟨x, hx⟩ : ∃ x, x = L[k] := ⟨_, rfl⟩
      obtain ⟨_, G, cur, rfl, hG, hrg⟩ := range_loose H1.out.lpage O4.out hlt
      rw [← hx] at hrg
      have HX := Lib.hid hx
      have RG4 := Lib.hid hrg
      have XL := Lib.hid (show x.1 < 240 ∧ x.2.length = 128 by rw [hx]; exact H1.out.lpage _ (List.getElem_mem _))
      have SX := Lib.hid (show (Tryz.prog.info? 83).map (·.size) = some (Value.int .i64 (x.1 : Int) :: cellsB x.2).length by rw [List.length_cons, cellsB_length, XL.out.2]; exact size83)
      have SX' := Lib.hid (show (Tryz.prog.info? 83).map (·.size) = some (Value.int .i64 (x.1 : Int) :: cellsB x.2).toArray.size by rw [List.size_toArray]; exact SX.out)
      obtain ⟨X, hXX⟩ : ∃ X, X = wr.heap.size := ⟨_, rfl⟩
      obtain ⟨U1, hU1⟩ : ∃ U, U = wr.alloc (.cells Tryz.zeroCells83 83) := ⟨_, rfl⟩
      obtain ⟨U2, hU2⟩ : ∃ U, U = U1.setRow X (Value.int .i64 (x.1 : Int) :: cellsB x.2).toArray := ⟨_, rfl⟩
      obtain ⟨U3, hU3⟩ : ∃ U, U = U2.drew := ⟨_, rfl⟩
      have x1 : U1.heap[X]? = some (.cells Tryz.zeroCells83 83 (0, 0)) := by rw [hU1, hXX]; exact heap_alloc_new _ _
      have X1 := Lib.hid x1
      have ZX := Lib.hid (show Tryz.zeroCells83.size = (Value.int .i64 (x.1 : Int) :: cellsB x.2).toArray.size by rw [zsize83]; simp [cellsB_length, XL.out.2])
      have OX := Lib.hid (show (Value.int .i64 (x.1 : Int) :: cellsB x.2).toArray.all (·.oneCell') = true from all_oneCell_toArray (fun v hv => by
        rcases List.mem_cons.1 hv with rfl | hv
        · rfl
        · exact cellsB_one _ v hv))
      have x2 : U2.heap[X]? = some (.cells (Value.int .i64 (x.1 : Int) :: cellsB x.2).toArray 83 (0, 0)) := by rw [hU2]; exact setRow_has x1
      have x3 : U3.heap[X]? = some (.cells (Value.int .i64 (x.1 : Int) :: cellsB x.2).toArray 83 (0, 0)) := by rw [hU3]; exact x2
      have SZ2 := Lib.hid (show (Tryz.prog.info? 39).map (·.size) = some (cellsB x.2).length by rw [cellsB_length, XL.out.2]; exact size39)
      have bU : Below wr.heap.size wr U3 := by rw [hU3, hU2]; exact (below_setRow (by rw [hU1]; exact (Below.refl _ _).alloc (Nat.le_refl _) _) (by rw [hXX]; exact Nat.le_refl _) _).drew
      have QU := Lib.hid ((bU.block g (row_lt QQ.out)).trans QQ.out)
      have KU := Lib.hid (KB.out.trans (Kept.of_below bU (· = g)) (U := (· = g)) (fun _ _ h => h) (fun _ _ h => h))
      have GX := Lib.hid (show g ≠ X by intro e; have h := QQ.out; have := row_lt h; omega)
      have DX := Lib.hid (show DObj U3 d (.slice (some ⟨g, 0, none⟩) 240 240) (.slice (some ⟨G, 0, none⟩) L.length c) from D4.out.at (bU.block d (row_lt D4.out)))
      have X3 := Lib.hid x3
      have HXX := Lib.hid hXX
      have HU1 := Lib.hid hU1
      have HU2 := Lib.hid hU2.symm
      have HU3 := Lib.hid hU3.symm
      have HLT := Lib.hid hlt
      have FL := Lib.hid (show (fl F (L.take k)).length = 240 by rw [fl_length]; exact H1.out.len)
      have FP := Lib.hid (show ∀ q ∈ fl F (L.take k), q.length = 128 from fl_page H1.out.page _ (fun x hx => H1.out.lpage x (List.mem_of_mem_take hx)))
      clear hXX hU1 hU2 hU3 x1 x2 x3 bU hx hG hrg
      go_upto_region 7 with (first | (refine wpList_load_mid rfl 83 (.tmp 18) rfl G (k * 129) rfl _ _ RG4.out Tryz.underlying83 rfl SX.out ?_) | (rw [← HU1.out, ← HXX.out]; refine wpList_store_row rfl 83 (.tmp 5) (.tmp 19) rfl X _ rfl rfl 83 _ X1.out SX'.out ZX.out OX.out ?_; rw [HU2.out]))
      obtain ⟨x1, x2⟩ := x
      refine g_region (fun w' => DObj w' d (.slice (some ⟨g, 0, none⟩) 240 240) (.slice (some ⟨G, 0, none⟩) L.length c) ∧ w'.heap[X]? = some (.cells (Value.int .i64 (x1 : Int) :: cellsB x2).toArray 83 (0, 0))) 10 rfl (by kernel_rfl) ?_
      rw [HU3.out]
      have CC := Lib.hid (And.intro DX.out X3.out)
      refine g_take 0 rfl (some 20) rfl (by kernel_rfl) (by kernel_rfl) (by kernel_rfl) (fun _ _ _ h => h) rfl (fun w' hw' => run_move_is (.tmp 0) (.pointer (some ⟨d, 0, none⟩)) rfl rfl w') CC.out ?_
      simp only [Act.put, List.setIfInBounds_toArray, List.set_cons_succ, List.set_cons_zero]
      refine g_take 1 rfl (some 21) rfl (by kernel_rfl) (by kernel_rfl) (by kernel_rfl) (fun _ _ _ h => h) rfl (fun w' hw' => run_nilc (x := .tmp 20) (a := ⟨d, 0, none⟩) rfl rfl w') CC.out ?_
      simp only [Act.put, List.setIfInBounds_toArray, List.set_cons_succ, List.set_cons_zero]
      refine g_take 2 rfl (some 22) rfl (by kernel_rfl) (by kernel_rfl) (by kernel_rfl) (fun _ _ _ h => h) rfl (fun w' hw' => run_fld65_0 (x := .tmp 21) (d := d) rfl rfl w') CC.out ?_
      simp only [Act.put, List.setIfInBounds_toArray, List.set_cons_succ, List.set_cons_zero]
      refine g_take 3 rfl (some 23) rfl (by kernel_rfl) (by kernel_rfl) (by kernel_rfl) (fun _ _ _ h => h) rfl (fun w' hw' => run_load_slice Tryz.underlying62 (x := .tmp 22) rfl rfl (dcell hw'.1).1) CC.out ?_
      simp only [Act.put, List.setIfInBounds_toArray, List.set_cons_succ, List.set_cons_zero]
      refine g_take 4 rfl (some 24) rfl (by kernel_rfl) (by kernel_rfl) (by kernel_rfl) (fun _ _ _ h => h) rfl (fun w' hw' => run_fld83_0 (x := .tmp 5) (d := X) rfl rfl w') CC.out ?_
      simp only [Act.put, List.setIfInBounds_toArray, List.set_cons_succ, List.set_cons_zero]
      refine g_take 5 rfl (some 25) rfl (by kernel_rfl) (by kernel_rfl) (by kernel_rfl) (fun _ _ _ h => h) rfl (fun w' hw' => run_load_int (x := .tmp 24) rfl Tryz.underlying3 rfl (cell_of_row w' X 0 _ 83 (0, 0) hw'.2)) CC.out ?_
      simp only [Act.put, List.setIfInBounds_toArray, List.set_cons_succ, List.set_cons_zero]
      refine g_take 6 rfl (some 26) rfl (by kernel_rfl) (by kernel_rfl) (by kernel_rfl) (fun _ _ _ h => h) rfl (fun w' hw' => run_fld83_1 (x := .tmp 5) (d := X) rfl rfl w') CC.out ?_
      simp only [Act.put, List.setIfInBounds_toArray, List.set_cons_succ, List.set_cons_zero]
      refine g_take 7 rfl (some 27) rfl (by kernel_rfl) (by kernel_rfl) (by kernel_rfl) (fun _ _ _ h => h) rfl (fun w' hw' => run_load_mid39 (x := .tmp 26) rfl rfl hw'.2 XL.out.2) CC.out ?_
      simp only [Act.put, List.setIfInBounds_toArray, List.set_cons_succ, List.set_cons_zero]
      refine g_take 8 rfl (some 28) rfl (by kernel_rfl) (by kernel_rfl) (by kernel_rfl) (fun _ _ _ h => h) rfl (fun w' hw' => run_at62 (x := .tmp 23) (y := .tmp 25) rfl rfl rfl XL.out.1 w') CC.out ?_
      simp only [Act.put, List.setIfInBounds_toArray, List.set_cons_succ, List.set_cons_zero]
      refine g_one 9 (by kernel_rfl) ?_
      obtain ⟨U4, hU4⟩ : ∃ U, U = U3.setCells g (x1 * 128) (cellsB x2) := ⟨_, rfl⟩
      have hk4 : Kept (· = g) U3 U4 := by rw [hU4]; exact setCells_kept _ _ _ _
      have SP := Lib.hid (fun (ρ : Operand → Value) (o : Oper) (ho : o.op = .store 39 (.tmp 28) (.tmp 27)) (hx : ρ (.tmp 28) = .pointer (some ⟨g, x1 * 128, none⟩)) (hy : ρ (.tmp 27) = .agg (cellsB x2).toArray) => run_store_page ho FP.out (by rw [FL.out]; exact XL.out.1) XL.out.2 hx hy QU.out)
      have G4 := Lib.hid (show U4.heap[g]? = some (.cells (pcells (fl F (L.take (k + 1)))).toArray 39 (0, 0)) by
        rw [fl_take HLT.out, ← HX.out, hU4]
        exact (run_store_page (ρ := fun | .tmp 28 => .pointer (some ⟨g, x1 * 128, none⟩) | _ => .agg (cellsB x2).toArray) (o := { dst := none, op := .store 39 (.tmp 28) (.tmp 27), type := 0, pos := "", after := #[], guard := none }) rfl FP.out (by rw [FL.out]; exact XL.out.1) XL.out.2 rfl rfl QU.out).2)
      have K4 := Lib.hid (KU.out.trans hk4 (U := (· = g)) (fun _ _ h => h) (fun _ _ h => h))
      have C4 := Lib.hid (show DObj U4 d (.slice (some ⟨g, 0, none⟩) 240 240) (.slice (some ⟨G, 0, none⟩) L.length c) ∧ U4.heap[X]? = some (.cells (Value.int .i64 (x1 : Int) :: cellsB x2).toArray 83 (0, 0)) from ⟨CC.out.1.at (hk4.block d (row_lt CC.out.1) DG.out), (hk4.block X (row_lt CC.out.2) (fun e => GX.out e.symm)).trans CC.out.2⟩)
      have HU4 := Lib.hid hU4.symm
      clear hU4 hk4
      refine g_skp (w' := U4) rfl rfl rfl (by rw [← HU4.out]; exact (SP.out _ _ rfl rfl rfl).1) C4.out ?_
      refine g_done (by kernel_rfl) ?_
      go_wp2_with fail
      go_roundw
      case rel => exact ⟨k + 1, by go_num, HLT.out, G4.out, K4.out⟩
      case measure => have := HLT.out; simp [intOf]; omega
    · have hkl : k = L.length := by omega
      subst hkl
      have QE := Lib.hid (show wr.heap[g]? = some (.cells (pcells (fl F L)).toArray 39 (0, 0)) by have := QQ.out; rw [List.take_length] at this; exact this)
      have KW := Lib.hid (show KT B isDisk w wr from KT.one H1.out.row H1.out.low.2 (by decide) KB.out.os KB.out.tape KB.out.output KB.out.size (fun k hk hne => KB.out.block k hk hne))
      go_wp2_with (refine wpList_store_slc size63 rfl (.tmp 32) rfl rfl (d := d) (j := 1) (A := none) (n := 0) (c := 0) rfl rfl D4.out (by simp) ?_)
      go_ret
      refine ⟨rfl, ⟨heap_setCell_row D4.out _, (Below.heap_setCell _ _ _ _ (fun e => DG.out e.symm)).trans QE.out, by rw [fl_length]; exact H1.out.len, fl_page H1.out.page _ H1.out.lpage, World.ownsRow_nil _ _ _ _, by simp, by simp, H1.out.low⟩, KW.out.trans (kt_setCell D4.out H1.out.low.1 (by decide) _)⟩
end Go.Proofs.YtnlolhlbpdmljaaGreatDoor
