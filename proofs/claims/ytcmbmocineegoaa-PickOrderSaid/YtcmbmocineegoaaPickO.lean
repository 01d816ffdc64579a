/-
  Who is picked hangs on no order of the list; who can't makes no difference: PickOrder answers true at every list of candidates, every two bytes and every candidate, and writes nothing that was there.
  Conditions: none.
-/
import Derived.Test.YtcmbmocineegoaaCandP
import Derived.Deep.DeepCutAuto
namespace Go.Proofs.Ytcmbmocineegoaa
open Go.ChangeShapes Go.WideShapes Go.ChangeAt Go.RowKit

theorem run_rem_is {ρ : Operand → Value} {o : Oper} {t t' : TypeId} {x y : Operand} (ho : o.op = .binOp .rem t x y t') {a b : Nat} (hx : ρ x = .int .i64 (a : Int)) (hy : ρ y = .int .i64 (b : Int)) (hb : 0 < b) (r : Int) (hr : ((a % b : Nat) : Int) = r) (w : World) : (execOp ρ o).run Try.prog w = .ok (.value (.int .i64 r)) w := by
  rw [← hr]; exact run_rem_nat ho hx hy hb w
theorem run_store_triple {ρ : Operand → Value} {o : Oper} {t : TypeId} {fs : Array Field} (_ht : Try.prog.underlying t = some (.struct fs)) (hs : (Try.prog.info? t).map (·.size) = some 3) {x y : Operand} (ho : o.op = .store t x y) {a : Addr} {g i : Nat} {d : C3} (hx : ρ x = .pointer (some a)) (hy : ρ y = .agg #[.int .i64 d.1, .int .i64 d.2.1, .int .i64 d.2.2])
    (ha : a = ⟨g, i * 3, none⟩) {w w' : World} (hw : w' = putT w g i d) (hc : ∀ j, j < 3 → (w.cell? ⟨g, i * 3 + j, none⟩).isSome = true) (hf : ∀ q, w.frozen? ⟨g, q, none⟩ = false) : (execOp ρ o).run Try.prog w = .ok .skip w' := by
  subst ha
  subst hw
  have h := run_storeCells_cells (P := Try.prog) g (i * 3) [.int .i64 d.1, .int .i64 d.2.1, .int .i64 d.2.2] 0 w (by simpa using hc) (fun j _ => hf _) (by simp [Value.oneCell'])
  simp only [Nat.add_zero] at h
  have h2 : (storeCells ⟨g, i * 3, none⟩ [.int .i64 d.1, .int .i64 d.2.1, .int .i64 d.2.2] 0).run Try.prog w = .ok () (putT w g i d) := h
  unfold execOp
  rw [ho]
  simp [hx, hy, Instr.storeAt, Instr.sureAddr, storeVar, Value.cells, Sem.run_bind, run_size hs, h2]
theorem g_skp {ops : Array Oper} {C : World → Prop} {Q : Exit → Act → World → Prop} {a : Act} {o : Oper} {w : World} {fuel : Nat} {listed : Array Bool} {i : Nat} (hi : ops[i]? = some o) (hd : o.dst = none) (hw : Region.wanted o (yielded ops a.tmps) = true) {w' : World} (hrun : (execOp a.eval o).run Try.prog w = .ok .skip w') (hC : C w')
    (h : Go ops C Q fuel (listed.setIfInBounds i true) a w') : GOp ops C Q fuel listed i a w :=
  g_wp hi hw fun K hK => by
    unfold Oper.wp
    rw [hrun]
    have e : a.put o.dst undef = a := by rw [hd]; rfl
    show K (a.put o.dst undef) w'
    rw [e]
    exact hK _ _ hC h
theorem swap3_perm {l : List C3} {i k : Nat} (hi : i < l.length) (hk : k < l.length) : ((l.set i (at3 l k)).set k (at3 l i)).Perm l := by
  have e : (l.set i (at3 l k)).set k (at3 l i) = (l.set i l[k]).set k l[i] := by
    unfold at3
    rw [List.getD_eq_getElem?_getD, List.getD_eq_getElem?_getD, List.getElem?_eq_getElem hi, List.getElem?_eq_getElem hk]; rfl
  rw [e]
  exact List.set_set_perm hi hk
theorem keys_perm {l m : List C3} (h : l.Perm m) : (keys l).Perm (keys m) := (h.filter canC).map key
theorem keys_snoc {l : List C3} {x : C3} (h : canC x = false) : keys (l ++ [x]) = keys l := by
  unfold keys; rw [List.filter_append]; simp [h]
theorem creads_new {w : World} {g : Nat} {t : TypeId} {x : C3} (h : w.heap[g]? = some (.cells #[.int .i64 x.1, .int .i64 x.2.1, .int .i64 x.2.2] t (0, 0))) : CReads w w.heap.size (some ⟨g, 0, none⟩) [x] := fun _ => ⟨_, rfl, row_lt h, fun j hj => by
  have e : j = 0 := by simpa using hj
  subst e
  rw [addr_add, addr_add2, addr_add2]
  exact ⟨cell_of_row w g 0 _ t (0, 0) h, cell_of_row w g 1 _ t (0, 0) h, cell_of_row w g 2 _ t (0, 0) h⟩⟩
theorem TRow.below {w w' : World} {g cap : Nat} {l : List C3} (h : TRow w g cap l) (hb : Below w.heap.size w w') : TRow w' g cap l := h.keep (hb.block g h.lt)

set_option maxRecDepth 100000 in
set_option maxHeartbeats 2000000 in
theorem order_run (w : World) (A : Option Addr) (c : Nat) (l : List C3) (hr : CReads w w.heap.size A l) (ka kb : Nat) (hka : ka < 256) (hkb : kb < 256) (x : C3) (hl : l.length ≤ 60) (h0 : 0 < l.length) :
    Calls Try.prog 10 #[.slice A l.length c, .int .u8 (ka : Int), .int .u8 (kb : Int), tv x] w fun e w' => e = .returned (.bool true) ∧ Below w.heap.size w w' := by
  obtain ⟨i0, hi0, hz0, hz1, hz2⟩ := info_parts info55
  have HR := Lib.hid hr
  have g1 : decide ((60 : Int) < (l.length : Int)) = false := decide_eq_false (by omega)
  have g2 : ((l.length : Int) == 0) = false := by rw [beq_eq_false_iff_ne]; omega
  have HH := Lib.hid h0
  have HKA := Lib.hid hka
  have HKB := Lib.hid hkb
  have HL60 := Lib.hid hl
  obtain ⟨i, hi⟩ : ∃ i, i = ka % l.length := ⟨_, rfl⟩
  obtain ⟨k, hk⟩ : ∃ k, k = kb % l.length := ⟨_, rfl⟩
  have HIL := Lib.hid (show i < l.length by rw [hi]; exact Nat.mod_lt _ h0)
  have HKL := Lib.hid (show k < l.length by rw [hk]; exact Nat.mod_lt _ h0)
  have HI := Lib.hid (show ((ka % l.length : Nat) : Int) = (i : Int) by rw [hi])
  have HKK := Lib.hid (show ((kb % l.length : Nat) : Int) = (k : Int) by rw [hk])
  obtain ⟨ad, rfl, _, _⟩ := hr h0
  clear hr hi hk
  obtain ⟨W0, hW0⟩ : ∃ u, u = w.alloc (.cells #[.int .i64 x.1, .int .i64 x.2.1, .int .i64 x.2.2] 53) := ⟨_, rfl⟩
  obtain ⟨G, hG⟩ : ∃ u, u = w.heap.size := ⟨_, rfl⟩
  have HGG := Lib.hid (show w.heap.size ≤ G by rw [hG]; exact Nat.le_refl _)
  have X0 := Lib.hid (show W0.heap[G]? = some (.cells #[.int .i64 x.1, .int .i64 x.2.1, .int .i64 x.2.2] 53 (0, 0)) by rw [hW0, hG]; exact heap_alloc_new w _)
  have B0 := Lib.hid (show Below w.heap.size w W0 by rw [hW0]; exact (Below.refl _ _).alloc (Nat.le_refl _) _)
  unfold tv
  go_enter Try.func10, Try.ntmps10
  go_wp2_with fail
  rw [← hW0, ← hG]
  clear hW0 hG
  refine (awake22_any _).mono ?_
  rintro e w1 ⟨rfl, hb1⟩
  have B1 := Lib.hid (B0.out.trans (hb1.mono B0.out.size))
  have X1 := Lib.hid ((hb1.block G (row_lt X0.out)).trans X0.out)
  clear hb1 X0
  go_wp2_with fail
  refine (of_any w1 (some ad) c l ((HR.out.below B1.out).more B1.out.size) (by omega)).mono ?_
  rintro e w2 ⟨v2, rfl, hown2, hb2⟩
  obtain ⟨gx, capx, rfl, hBx, hT2⟩ := trow_of_own hown2 rfl h0
  have T2 := Lib.hid hT2
  have B2 := Lib.hid (B1.out.trans (hb2.mono B1.out.size))
  have X2 := Lib.hid ((hb2.block G (row_lt X1.out)).trans X1.out)
  have HGX := Lib.hid (show G < w1.heap.size from row_lt X1.out)
  clear hown2 hb2 hT2 X1
  go_wp2_with fail
  refine (of_any w2 (some ad) c l ((HR.out.below B2.out).more B2.out.size) (by omega)).mono ?_
  rintro e w4 ⟨v4, rfl, hown4, hb4⟩
  obtain ⟨g, cap, rfl, hBg, hT4⟩ := trow_of_own hown4 rfl h0
  have Y4 := Lib.hid hT4
  have T4 := Lib.hid (T2.out.below hb4)
  have B4 := Lib.hid (B2.out.trans (hb4.mono B2.out.size))
  have X4 := Lib.hid ((hb4.block G (row_lt X2.out)).trans X2.out)
  have HGX9 := Lib.hid (show G < gx from Nat.lt_of_lt_of_le HGX.out hBx)
  have HNE := Lib.hid (show gx < g from Nat.lt_of_lt_of_le T2.out.lt hBg)
  have HNG := Lib.hid (show G < g from Nat.lt_of_lt_of_le (row_lt X2.out) hBg)
  have HWG := Lib.hid (show w.heap.size ≤ g from Nat.le_trans B2.out.size hBg)
  clear hown4 hb4 hT4 hBg hBx T2 X2
  go_upto_region 5 with fail
  refine r_region (fun w' => Below w4.heap.size w4 w') (by kernel_rfl) (by kernel_rfl) (Below.refl _ _).drew ?_
  refine r_move_is rfl (.tmp 1) (.int .u8 (ka : Int)) rfl rfl ?_
  simp only [Act.put, List.setIfInBounds_toArray, List.set_cons_succ, List.set_cons_zero]
  refine r_val rfl (fun w' hw' => run_conv8 (x := .tmp 34) rfl rfl HKA.out w') ?_
  simp only [Act.put, List.setIfInBounds_toArray, List.set_cons_succ, List.set_cons_zero]
  refine r_move_is rfl (.tmp 0) (.slice (some ad) l.length c) rfl rfl ?_
  simp only [Act.put, List.setIfInBounds_toArray, List.set_cons_succ, List.set_cons_zero]
  refine r_val rfl (fun w' hw' => run_len_T Try.underlying44 (x := .tmp 36) rfl rfl w') ?_
  simp only [Act.put, List.setIfInBounds_toArray, List.set_cons_succ, List.set_cons_zero]
  refine r_val rfl (fun w' hw' => run_rem_is (x := .tmp 35) (y := .tmp 37) rfl rfl rfl HH.out (i : Int) HI.out w') ?_
  simp only [Act.put, List.setIfInBounds_toArray, List.set_cons_succ, List.set_cons_zero]
  refine r_move_is rfl (.tmp 2) (.int .u8 (kb : Int)) rfl rfl ?_
  simp only [Act.put, List.setIfInBounds_toArray, List.set_cons_succ, List.set_cons_zero]
  refine r_val rfl (fun w' hw' => run_conv8 (x := .tmp 39) rfl rfl HKB.out w') ?_
  simp only [Act.put, List.setIfInBounds_toArray, List.set_cons_succ, List.set_cons_zero]
  refine r_move_is rfl (.tmp 0) (.slice (some ad) l.length c) rfl rfl ?_
  simp only [Act.put, List.setIfInBounds_toArray, List.set_cons_succ, List.set_cons_zero]
  refine r_val rfl (fun w' hw' => run_len_T Try.underlying44 (x := .tmp 41) rfl rfl w') ?_
  simp only [Act.put, List.setIfInBounds_toArray, List.set_cons_succ, List.set_cons_zero]
  refine r_val rfl (fun w' hw' => run_rem_is (x := .tmp 40) (y := .tmp 42) rfl rfl rfl HH.out (k : Int) HKK.out w') ?_
  simp only [Act.put, List.setIfInBounds_toArray, List.set_cons_succ, List.set_cons_zero]
  refine r_val rfl (fun w' hw' => run_assign_is (.tmp 38) (.int .i64 (i : Int)) rfl rfl w') ?_
  simp only [Act.put, List.setIfInBounds_toArray, List.set_cons_succ, List.set_cons_zero]
  refine r_val rfl (fun w' hw' => run_assign_is (.tmp 43) (.int .i64 (k : Int)) rfl rfl w') ?_
  simp only [Act.put, List.setIfInBounds_toArray, List.set_cons_succ, List.set_cons_zero]
  refine r_nil ?_
  intro w5 hw2
  have Y5 := Lib.hid (Y4.out.below hw2)
  have T5 := Lib.hid (T4.out.below hw2)
  have B5 := Lib.hid (B4.out.trans (hw2.mono B4.out.size))
  have X5 := Lib.hid ((hw2.block G (row_lt X4.out)).trans X4.out)
  clear hw2 Y4 T4 X4
  go_upto_region 6 with fail
  obtain ⟨w6, hw6⟩ : ∃ u, u = w5.drew := ⟨_, rfl⟩
  have HD6 := Lib.hid hw6.symm
  have hb6 : Below w5.heap.size w5 w6 := by rw [hw6]; exact (Below.refl _ _).drew
  have Y6 := Lib.hid (Y5.out.below hb6)
  have T6 := Lib.hid (T5.out.below hb6)
  have B6 := Lib.hid (B5.out.trans (hb6.mono B5.out.size))
  have X6 := Lib.hid ((hb6.block G (row_lt X5.out)).trans X5.out)
  clear hw6 hb6
  have CLi := Lib.hid (creads_cell Y6.out.reads (Below.refl _ _) HIL.out)
  have CLk := Lib.hid (creads_cell Y6.out.reads (Below.refl _ _) HKL.out)
  obtain ⟨w7, hw7⟩ : ∃ u, u = putT w6 g i (at3 l k) := ⟨_, rfl⟩
  obtain ⟨w8, hw8⟩ : ∃ u, u = putT w7 g k (at3 l i) := ⟨_, rfl⟩
  have HW7 := Lib.hid hw7
  have HW8 := Lib.hid hw8
  obtain ⟨l1, hl1⟩ : ∃ u, u = (l.set i (at3 l k)).set k (at3 l i) := ⟨_, rfl⟩
  have hY7 : TRow w7 g cap (l.set i (at3 l k)) := by rw [hw7]; exact Y6.out.put HIL.out _
  have Y8 := Lib.hid (show TRow w8 g cap l1 by rw [hw8, hl1]; exact hY7.put (by simpa using HKL.out) _)
  have HP1 := Lib.hid (show l1.Perm l by rw [hl1]; exact swap3_perm HIL.out HKL.out)
  have ST1 := Lib.hid (show ∀ j, j < 3 → (w6.cell? ⟨g, i * 3 + j, none⟩).isSome = true from fun j hj => by
    obtain ⟨a, b, d⟩ := Y6.out.cell HIL.out
    have h3 : j = 0 ∨ j = 1 ∨ j = 2 := by omega
    rcases h3 with rfl | rfl | rfl
    · rw [Nat.add_zero, a]; rfl
    · rw [b]; rfl
    · rw [d]; rfl)
  have ST2 := Lib.hid (show ∀ j, j < 3 → (w7.cell? ⟨g, k * 3 + j, none⟩).isSome = true from fun j hj => by
    obtain ⟨a, b, d⟩ := hY7.cell (j := k) (by simpa using HKL.out)
    have h3 : j = 0 ∨ j = 1 ∨ j = 2 := by omega
    rcases h3 with rfl | rfl | rfl
    · rw [Nat.add_zero, a]; rfl
    · rw [b]; rfl
    · rw [d]; rfl)
  have FR1 := Lib.hid (show ∀ q, w6.frozen? ⟨g, q, none⟩ = false from fun q => Y6.out.free q)
  have FR2 := Lib.hid (show ∀ q, w7.frozen? ⟨g, q, none⟩ = false from fun q => hY7.free q)
  have K8 := Lib.hid (show Kept (· = g) w6 w8 by rw [hw8]; rw [hw7]; exact (putT_kept w6 g i _).trans (U := (· = g)) (putT_kept _ g k _) (fun _ _ h => h) (fun _ _ h => h))
  have T8 := Lib.hid (T6.out.keep (K8.out.block gx T6.out.lt (Nat.ne_of_lt HNE.out)))
  have X8 := Lib.hid ((K8.out.block G (row_lt X6.out) (Nat.ne_of_lt HNG.out)).trans X6.out)
  have B8 := Lib.hid (B6.out.trans (K8.out.below B6.out.size (fun q hq e => by have := HWG.out; omega)))
  clear hl1 hY7 hw7 hw8 Y5 T5 X5
  go_cut [56] (fun _ wx => wx = w8)
  case first =>
    refine g_region (fun _ => True) 16 rfl (by kernel_rfl) ?_
    rw [HD6.out]
    refine g_take 0 rfl (some 44) rfl (by kernel_rfl) (by kernel_rfl) (by kernel_rfl) (fun _ _ _ h => h) rfl (fun w' hw' => run_move_is (.tmp 10) (.slice (some ⟨g, 0, none⟩) l.length cap) rfl rfl w') trivial ?_
    simp only [Act.put, List.setIfInBounds_toArray, List.set_cons_succ, List.set_cons_zero]
    refine g_take 1 rfl (some 45) rfl (by kernel_rfl) (by kernel_rfl) (by kernel_rfl) (fun _ _ _ h => h) rfl (fun w' hw' => run_move_is (.tmp 11) (.int .i64 (i : Int)) rfl rfl w') trivial ?_
    simp only [Act.put, List.setIfInBounds_toArray, List.set_cons_succ, List.set_cons_zero]
    refine g_take 2 rfl (some 46) rfl (by kernel_rfl) (by kernel_rfl) (by kernel_rfl) (fun _ _ _ h => h) rfl (fun w' hw' => run_move_is (.tmp 10) (.slice (some ⟨g, 0, none⟩) l.length cap) rfl rfl w') trivial ?_
    simp only [Act.put, List.setIfInBounds_toArray, List.set_cons_succ, List.set_cons_zero]
    refine g_take 3 rfl (some 47) rfl (by kernel_rfl) (by kernel_rfl) (by kernel_rfl) (fun _ _ _ h => h) rfl (fun w' hw' => run_move_is (.tmp 12) (.int .i64 (k : Int)) rfl rfl w') trivial ?_
    simp only [Act.put, List.setIfInBounds_toArray, List.set_cons_succ, List.set_cons_zero]
    refine g_take 4 rfl (some 48) rfl (by kernel_rfl) (by kernel_rfl) (by kernel_rfl) (fun _ _ _ h => h) rfl (fun w' hw' => run_move_is (.tmp 10) (.slice (some ⟨g, 0, none⟩) l.length cap) rfl rfl w') trivial ?_
    simp only [Act.put, List.setIfInBounds_toArray, List.set_cons_succ, List.set_cons_zero]
    refine g_take 5 rfl (some 49) rfl (by kernel_rfl) (by kernel_rfl) (by kernel_rfl) (fun _ _ _ h => h) rfl (fun w' hw' => run_move_is (.tmp 12) (.int .i64 (k : Int)) rfl rfl w') trivial ?_
    simp only [Act.put, List.setIfInBounds_toArray, List.set_cons_succ, List.set_cons_zero]
    refine g_take 6 rfl (some 50) rfl (by kernel_rfl) (by kernel_rfl) (by kernel_rfl) (fun _ _ _ h => h) rfl (fun w' hw' => run_at_T Try.underlying47 size55 (x := .tmp 48) (y := .tmp 49) (i := k) rfl rfl rfl HKL.out w') trivial ?_
    simp only [Act.put, List.setIfInBounds_toArray, List.set_cons_succ, List.set_cons_zero]
    refine g_take 8 rfl (some 52) rfl (by kernel_rfl) (by kernel_rfl) (by kernel_rfl) (fun _ _ _ h => h) rfl (fun w' hw' => run_move_is (.tmp 10) (.slice (some ⟨g, 0, none⟩) l.length cap) rfl rfl w') trivial ?_
    simp only [Act.put, List.setIfInBounds_toArray, List.set_cons_succ, List.set_cons_zero]
    refine g_take 9 rfl (some 53) rfl (by kernel_rfl) (by kernel_rfl) (by kernel_rfl) (fun _ _ _ h => h) rfl (fun w' hw' => run_move_is (.tmp 11) (.int .i64 (i : Int)) rfl rfl w') trivial ?_
    simp only [Act.put, List.setIfInBounds_toArray, List.set_cons_succ, List.set_cons_zero]
    refine g_take 10 rfl (some 54) rfl (by kernel_rfl) (by kernel_rfl) (by kernel_rfl) (fun _ _ _ h => h) rfl (fun w' hw' => run_at_T Try.underlying47 size55 (x := .tmp 52) (y := .tmp 53) (i := i) rfl rfl rfl HIL.out w') trivial ?_
    simp only [Act.put, List.setIfInBounds_toArray, List.set_cons_succ, List.set_cons_zero]
    refine g_two 7 11 (by kernel_rfl) ?_ ?_
    · refine g_val rfl (some 51) rfl rfl (run_load_triple Try.underlying55 size55 (x := .tmp 50) (d := at3 l k) rfl rfl CLk.out) trivial ?_
      simp only [Act.put, List.setIfInBounds_toArray, List.set_cons_succ, List.set_cons_zero]
      refine g_one 11 (by kernel_rfl) ?_
      refine g_val rfl (some 55) rfl rfl (run_load_triple Try.underlying55 size55 (x := .tmp 54) (d := at3 l i) rfl rfl CLi.out) trivial ?_
      simp only [Act.put, List.setIfInBounds_toArray, List.set_cons_succ, List.set_cons_zero]
      refine g_take 12 rfl (some 56) rfl (by kernel_rfl) (by kernel_rfl) (by kernel_rfl) (fun _ _ _ h => h) rfl (fun w' hw' => run_at_T Try.underlying47 size55 (x := .tmp 44) (y := .tmp 45) (i := i) rfl rfl rfl HIL.out w') trivial ?_
      simp only [Act.put, List.setIfInBounds_toArray, List.set_cons_succ, List.set_cons_zero]
      refine g_one 13 (by kernel_rfl) ?_
      refine g_skp rfl rfl rfl (run_store_triple Try.underlying55 size55 (x := .tmp 56) (y := .tmp 51) (g := g) (i := i) (d := at3 l k) rfl rfl rfl (addr_add _ _) HW7.out ST1.out FR1.out) trivial ?_
      refine g_take 14 rfl (some 57) rfl (by kernel_rfl) (by kernel_rfl) (by kernel_rfl) (fun _ _ _ h => h) rfl (fun w' hw' => run_at_T Try.underlying47 size55 (x := .tmp 46) (y := .tmp 47) (i := k) rfl rfl rfl HKL.out w') trivial ?_
      simp only [Act.put, List.setIfInBounds_toArray, List.set_cons_succ, List.set_cons_zero]
      refine g_one 15 (by kernel_rfl) ?_
      refine g_skp rfl rfl rfl (run_store_triple Try.underlying55 size55 (x := .tmp 57) (y := .tmp 55) (g := g) (i := k) (d := at3 l i) rfl rfl rfl (addr_add _ _) HW8.out ST2.out FR2.out) trivial ?_
      refine g_done (by kernel_rfl) ?_
      go_wp2_with fail
      go_meet
      exact rfl
    · refine g_val rfl (some 55) rfl rfl (run_load_triple Try.underlying55 size55 (x := .tmp 54) (d := at3 l i) rfl rfl CLi.out) trivial ?_
      simp only [Act.put, List.setIfInBounds_toArray, List.set_cons_succ, List.set_cons_zero]
      refine g_one 7 (by kernel_rfl) ?_
      refine g_val rfl (some 51) rfl rfl (run_load_triple Try.underlying55 size55 (x := .tmp 50) (d := at3 l k) rfl rfl CLk.out) trivial ?_
      simp only [Act.put, List.setIfInBounds_toArray, List.set_cons_succ, List.set_cons_zero]
      refine g_take 12 rfl (some 56) rfl (by kernel_rfl) (by kernel_rfl) (by kernel_rfl) (fun _ _ _ h => h) rfl (fun w' hw' => run_at_T Try.underlying47 size55 (x := .tmp 44) (y := .tmp 45) (i := i) rfl rfl rfl HIL.out w') trivial ?_
      simp only [Act.put, List.setIfInBounds_toArray, List.set_cons_succ, List.set_cons_zero]
      refine g_one 13 (by kernel_rfl) ?_
      refine g_skp rfl rfl rfl (run_store_triple Try.underlying55 size55 (x := .tmp 56) (y := .tmp 51) (g := g) (i := i) (d := at3 l k) rfl rfl rfl (addr_add _ _) HW7.out ST1.out FR1.out) trivial ?_
      refine g_take 14 rfl (some 57) rfl (by kernel_rfl) (by kernel_rfl) (by kernel_rfl) (fun _ _ _ h => h) rfl (fun w' hw' => run_at_T Try.underlying47 size55 (x := .tmp 46) (y := .tmp 47) (i := k) rfl rfl rfl HKL.out w') trivial ?_
      simp only [Act.put, List.setIfInBounds_toArray, List.set_cons_succ, List.set_cons_zero]
      refine g_one 15 (by kernel_rfl) ?_
      refine g_skp rfl rfl rfl (run_store_triple Try.underlying55 size55 (x := .tmp 57) (y := .tmp 55) (g := g) (i := k) (d := at3 l i) rfl rfl rfl (addr_add _ _) HW8.out ST2.out FR2.out) trivial ?_
      refine g_done (by kernel_rfl) ?_
      go_wp2_with fail
      go_meet
      exact rfl
  case rest =>
  rw [hcut]
  clear hcut ST1 ST2 FR1 FR2 CLi CLk HW7 HW8 K8 Y6 T6 X6 HD6 B6
  have hl1l : l1.length = l.length := HP1.out.length_eq
  have x1 := cell_of_row w8 G 0 _ 53 (0, 0) X8.out
  have x2 := cell_of_row w8 G 1 _ 53 (0, 0) X8.out
  have x3 := cell_of_row w8 G 2 _ 53 (0, 0) X8.out
  have hfz : w8.frozen? ⟨G, 1, none⟩ = false := by have h := X8.out; simp [World.frozen?, h]
  go_upto_if 62 with fail
  go_cut [62] (fun _ wx => ∃ y : C3, canC y = false ∧ Hid (wx.heap[G]? = some (.cells #[.int .i64 y.1, .int .i64 y.2.1, .int .i64 y.2.2] 53 (0, 0))) ∧ Hid (Kept (· = G) w8 wx))
  case first =>
    by_cases hge : x.2.1 ≤ x.2.2
    · have hd : decide (x.2.1 ≤ x.2.2) = true := decide_eq_true hge
      have XN := Lib.hid (show (w8.setCell ⟨G, 1, none⟩ (.int .i64 (-1))).heap[G]? = some (.cells #[.int .i64 x.1, .int .i64 (-1), .int .i64 x.2.2] 53 (0, 0)) by have h := X8.out; simp [World.setCell, Array.getElem?_modify, h])
      have KN := Lib.hid (show Kept (· = G) w8 (w8.setCell ⟨G, 1, none⟩ (.int .i64 (-1))) from ⟨rfl, rfl, rfl, by simp, fun q _ hq => Below.heap_setCell _ _ _ _ hq⟩)
      clear hge
      simp only [hd]
      go_wp2_with fail
      go_meet
      exact ⟨(x.1, -1, x.2.2), by unfold canC; simp, XN, KN⟩
    · have hd : decide (x.2.1 ≤ x.2.2) = false := decide_eq_false hge
      have HCN := Lib.hid (show canC x = false by unfold canC; rw [hd]; simp)
      clear hge
      simp only [hd]
      go_wp2_with fail
      go_meet
      exact ⟨x, HCN.out, X8, Lib.hid (Kept.refl _ _)⟩
  case rest =>
  obtain ⟨y, hcy, XX, KK⟩ := hcut
  have HCY := Lib.hid hcy
  have Y9 := Lib.hid (Y8.out.keep (KK.out.block g Y8.out.lt (Ne.symm (Nat.ne_of_lt HNG.out))))
  have T9 := Lib.hid (T8.out.keep (KK.out.block gx T8.out.lt (fun e => by have h1 := HNE.out; have h2 := HNG.out; exact absurd e (by have := HGX9.out; omega))))
  have B9 := Lib.hid (B8.out.trans (KK.out.below B8.out.size (fun q hq e => by have := HGG.out; omega)))
  clear hcy KK x1 x2 x3 hfz Y8 T8 B8 X8
  have x1 := cell_of_row wc G 0 _ 53 (0, 0) XX.out
  have x2 := cell_of_row wc G 1 _ 53 (0, 0) XX.out
  have x3 := cell_of_row wc G 2 _ 53 (0, 0) XX.out
  obtain ⟨wa, hwa⟩ : ∃ u, u = wc.alloc (.cells #[.int .i64 y.1, .int .i64 y.2.1, .int .i64 y.2.2] 53) := ⟨_, rfl⟩
  obtain ⟨G2, hG2⟩ : ∃ u, u = wc.heap.size := ⟨_, rfl⟩
  have hba : Below wc.heap.size wc wa := by rw [hwa]; exact (Below.refl _ _).alloc (Nat.le_refl _) _
  have XA := Lib.hid (show wa.heap[G2]? = some (.cells #[.int .i64 y.1, .int .i64 y.2.1, .int .i64 y.2.2] 53 (0, 0)) by rw [hwa, hG2]; exact heap_alloc_new wc _)
  have YA := Lib.hid (Y9.out.below hba)
  have TA := Lib.hid (T9.out.below hba)
  have BA := Lib.hid (B9.out.trans (hba.mono B9.out.size))
  have HWA := Lib.hid hwa
  have HG2 := Lib.hid hG2
  have OFF := Lib.hid (of_any wa (some ⟨G2, 0, none⟩) 1 [y] (creads_new XA.out) (by simp))
  clear hba hwa hG2 Y9 T9 B9
  go_wp2_with fail
  rw [← HWA.out, ← HG2.out]
  refine OFF.out.mono ?_
  rintro e wb ⟨vb, rfl, hownb, hbb⟩
  have YB := Lib.hid (YA.out.below hbb)
  have TB := Lib.hid (TA.out.below hbb)
  have BB := Lib.hid (BA.out.trans (hbb.mono BA.out.size))
  obtain ⟨Ab, cb, rfl, _, hrb⟩ := own_creads hownb rfl
  have RB := Lib.hid hrb
  have OY := Lib.hid (show wb.ownsRow w.heap.size 55 3 (.slice (some ⟨g, 0, none⟩) l.length cap) l.length (tcells l1) by rw [← hl1l]; exact own_of_trow YB.out HWG.out)
  clear hownb hbb hrb YA TA BA OFF x1 x2 x3 XA XX
  go_wp2_with (at_builtin; refine wpList_append_any _ rfl (.tmp 64) (.tmp 67) _ rfl w.heap.size 55 i0 _ 3 24 Try.underlying47 hi0 hz0 hz1 hz2 rfl (by omega) (.slice (some ⟨g, 0, none⟩) l.length cap) l.length (tcells l1) rfl OY.out _ Ab 1 cb (tcells [y]) rfl (creads_of RB.out) (tcells_one _) (by unfold maxLen; omega) (by omega) BB.out.size ?_; intro v10 w10 hown10 hgr10 hat10)
  obtain ⟨m2, hm2⟩ : ∃ u, u = l1 ++ [y] := ⟨_, rfl⟩
  have hm2l : m2.length = l.length + 1 := by rw [hm2]; simp [hl1l]
  have hO10 : w10.ownsRow w.heap.size 55 3 v10 m2.length (tcells m2) := by rw [hm2l, hm2, tcells_append]; exact hown10
  obtain ⟨g3, cap3, rfl, hB3, hT3⟩ := trow_of_own hO10 rfl (by omega)
  have KEY := Lib.hid (show (keys m2).Perm (keys l) by rw [hm2, keys_snoc HCY.out]; exact keys_perm HP1.out)
  have LST := Lib.hid (show canC (at3 m2 l.length) = false by rw [hm2, ← hl1l, at3_append_eq]; exact HCY.out)
  have T10 := Lib.hid (TB.out.keep (hgr10.block gx TB.out.lt (fun e => by have h1 := HNE.out; have h2 : gx = g := (by simpa [Value.ownBlock] using e); omega)))
  have Y10 := Lib.hid hT3
  have B10 := Lib.hid (BB.out.grown hgr10 BB.out.size (fun q hq => (own_lt OY.out hq).2))
  have HM2 := Lib.hid hm2l
  have hm2n : m2.length ≤ 200 := by omega
  clear hm2 hown10 hgr10 hat10 hO10 hT3 hB3 hm2l OY RB YB TB BB
  refine (best_any w10 _ capx l T10.out.reads (by omega)).mono ?_
  rintro e w11 ⟨s, rfl, hp1, hri1, hb11⟩
  have P1 := Lib.hid hp1
  have R1 := Lib.hid hri1
  have T11 := Lib.hid (T10.out.below hb11)
  have Y11 := Lib.hid (Y10.out.below hb11)
  have B11 := Lib.hid (B10.out.trans (hb11.mono B10.out.size))
  clear hp1 hri1 hb11 T10 Y10 B10
  go_wp2_with fail
  refine (best_any w11 _ cap3 m2 Y11.out.reads hm2n).mono ?_
  rintro e w12 ⟨s2, rfl, hp2, hri2, hb12⟩
  obtain rfl : s2 = s := rising_unique hri2 R1.out (hp2.trans (KEY.out.trans P1.out.symm))
  have T12 := Lib.hid (T11.out.below hb12)
  have Y12 := Lib.hid (Y11.out.below hb12)
  have B12 := Lib.hid (B11.out.trans (hb12.mono B11.out.size))
  clear hp2 hri2 hb12 T11 Y11 B11
  obtain ⟨n1, hn1⟩ : ∃ n, n = (at_ s2 0).2 := ⟨_, rfl⟩
  obtain ⟨ok1, hok1⟩ : ∃ b, b = decide (0 < s2.length) := ⟨_, rfl⟩
  rw [← hn1, ← hok1]
  clear hn1 hok1
  have hsub : IntKind.i64.wrap ((m2.length : Int) - 1) = (l.length : Int) := by rw [IntKind.wrap_i64]; have := HM2.out; omega
  have HLM := Lib.hid (show l.length < m2.length by have := HM2.out; omega)
  have HX := Lib.hid (creads_cell Y12.out.reads (Below.refl _ _) HLM.out)
  have HC := Lib.hid (fun w => can_any (at3 m2 l.length) w)
  unfold tv at HC
  rw [LST.out] at HC
  go_wp2_with (first | refine l_val rfl (run_at_T Try.underlying47 size55 (x := .tmp 88) (y := .tmp 91) (ad := ⟨g3, 0, none⟩) (i := l.length) rfl rfl rfl HLM.out _) ?_ | refine l_val rfl (run_load_triple Try.underlying55 size55 (x := .tmp 92) (d := at3 m2 l.length) rfl rfl HX.out) ?_)
  refine (HC.out _).mono ?_
  rintro e w13 ⟨rfl, hb13⟩
  have T13 := Lib.hid (T12.out.below hb13)
  have Y13 := Lib.hid (Y12.out.below hb13)
  have B13 := Lib.hid (B12.out.trans (hb13.mono B12.out.size))
  clear hb13 T12 Y12 B12 HX HC
  go_wp2_with fail
  refine (order_any w13 _ capx l T13.out.reads (by omega)).mono ?_
  rintro e w14 ⟨v14, s14, rfl, hown14, hp14, _, hb14⟩
  obtain ⟨a14, c14, rfl⟩ := own_slice hown14
  have L14 := Lib.hid hp14.length_eq
  have Y14 := Lib.hid (Y13.out.below hb14)
  have B14 := Lib.hid (B13.out.trans (hb14.mono B13.out.size))
  clear hown14 hp14 hb14 T13 Y13 B13
  go_wp2_with fail
  refine (order_any w14 _ cap3 m2 Y14.out.reads hm2n).mono ?_
  rintro e w15 ⟨v15, s15, rfl, hown15, hp15, _, hb15⟩
  obtain ⟨a15, c15, rfl⟩ := own_slice hown15
  have B15 := Lib.hid (B14.out.trans (hb15.mono B14.out.size))
  have hle : ((s14.length : Int) == (s15.length : Int)) = true := by
    rw [beq_iff_eq, L14.out, hp15.length_eq, KEY.out.length_eq]
  clear hown15 hp15 hb15
  go_wp2_with fail
  go_ret
  exact ⟨rfl, B15.out⟩

set_option maxRecDepth 100000 in
set_option maxHeartbeats 1000000 in
theorem ordr_long (w : World) (A : Option Addr) (c n : Nat) (k m : Nat) (x : C3) (hn : n ≤ maxLen) (h : 60 < n ∨ n = 0) :
    Calls Try.prog 10 #[.slice A n c, .int .u8 (k : Int), .int .u8 (m : Int), tv x] w fun e w' => e = .returned (.bool true) ∧ Below w.heap.size w w' := by
  unfold maxLen at hn
  unfold tv
  by_cases h1 : 60 < n
  · have g1 : decide ((60 : Int) < (n : Int)) = true := decide_eq_true (by omega)
    go_enter Try.func10, Try.ntmps10
    go_wp2_with fail
    refine (awake22_any _).mono ?_
    rintro e w1 ⟨rfl, hb1⟩
    go_wp2_with fail
    refine (awake22_any _).mono ?_
    rintro e w2 ⟨rfl, hb2⟩
    go_wp2
    go_ret
    exact ⟨rfl, ((Below.refl _ _).alloc (Nat.le_refl _) _).trans ((hb1.trans (hb2.mono hb1.size)).mono (by simp))⟩
  · have g1 : decide ((60 : Int) < (n : Int)) = false := decide_eq_false (by omega)
    obtain rfl : n = 0 := by omega
    go_enter Try.func10, Try.ntmps10
    go_wp2_with fail
    refine (awake22_any _).mono ?_
    rintro e w1 ⟨rfl, hb1⟩
    go_wp2_with fail
    refine (awake22_any _).mono ?_
    rintro e w2 ⟨rfl, hb2⟩
    go_wp2
    go_ret
    exact ⟨rfl, ((Below.refl _ _).alloc (Nat.le_refl _) _).trans ((hb1.trans (hb2.mono hb1.size)).mono (by simp))⟩

theorem walk_pickOrder (w : World) (A : Option Addr) (c : Nat) (l : List C3) (hm : l.length ≤ maxLen) (hr : CReads w w.heap.size A l) (_hwf : ∀ j, j < l.length → -9223372036854775808 ≤ (at3 l j).2.2) (k : Nat) (hk : k < 256) (m : Nat) (hm2 : m < 256) (x : C3) :
    Calls Try.prog 10 #[.slice A l.length c, .int .u8 (k : Int), .int .u8 (m : Int), tv x] w fun e w' => e = .returned (.bool true) ∧ Below w.heap.size w w' := by
  by_cases h : 60 < l.length ∨ l.length = 0
  · exact ordr_long w A c _ k m x hm h
  · exact order_run w A c l hr k m hk hm2 x (by omega) (by omega)

set_option maxRecDepth 100000 in
theorem pickOrder_lifted (os : Os) (started : os.Started) (H : Type) (enc : TypeId × Value → H) :
    ReturnsInHanded {} Try.checked os 10 .any (Rows.pickOrderSpec.pre6 enc Try.prog Try.f10 Rows.pickOrderRow.domain false) (Rows.pickOrderSpec.post enc Try.prog Try.f10 false true false false) := by
  refine returnsInHanded_of_change (C := Try.checked) own started (by kernel_rfl) Try.func10
    (ChangeSpec.witness6 (enc := enc) (C := Try.checked) false ⟨#[], #[.slice none 0 0, .int .u8 0, .int .u8 0, .agg #[.int .i64 0, .int .i64 0, .int .i64 0]], []⟩ 8 (by kernel_rfl) (by kernel_rfl) (by kernel_rfl) (by kernel_rfl)) ?_
  intro W base args ds gs before hval0 hW hcnd hsz
  have hval : ∀ (j : Nat) t v, Try.f10.params[j]? = some t → args[j]? = some v → Value.okWide Try.prog W .any base t v := hval0
  have hW' := hW
  obtain ⟨p, q, hA0, hV, rfl, hfz, hnd⟩ := hW
  have hA : DataW.TrodAll enc Try.prog W 0 (fun _ => true) true Try.f10.params.toList args.toList ds p := hA0
  rw [Try.params10] at hA hval
  obtain ⟨v0, vs0, d0, ds0, p0, q0, hargs, rfl, rfl, h0, r0⟩ := trodAll_cons hA
  obtain ⟨v1, vs1, d1, ds1, p1, q1, rfl, rfl, rfl, h1, r1⟩ := trodAll_cons r0
  obtain ⟨v2, vs2, d2, ds2, p2, q2, rfl, rfl, rfl, h2, r2⟩ := trodAll_cons r1
  obtain ⟨v3, vs3, d3, ds3, p3, q3, rfl, rfl, rfl, h3, r3⟩ := trodAll_cons r2
  obtain ⟨rfl, rfl, rfl⟩ := trodAll_nil r3
  obtain rfl : args = #[v0, v1, v2, v3] := by cases args; simp_all
  obtain ⟨rfl, rfl⟩ := trodVars_none hV
  have k0 := h0
  have lt0 : ∀ x ∈ p0, x.block < W.heap.size := by obtain ⟨m, hm⟩ := k0; exact DataW.trod_lt m _ _ _ hm
  have k1 := h1
  have lt1 : ∀ x ∈ p1, x.block < W.heap.size := by obtain ⟨m, hm⟩ := k1; exact DataW.trod_lt m _ _ _ hm
  have k2 := h2
  have lt2 : ∀ x ∈ p2, x.block < W.heap.size := by obtain ⟨m, hm⟩ := k2; exact DataW.trod_lt m _ _ _ hm
  have k3 := h3
  have lt3 : ∀ x ∈ p3, x.block < W.heap.size := by obtain ⟨m, hm⟩ := k3; exact DataW.trod_lt m _ _ _ hm
  obtain ⟨A0, c0, l0, rfl, hm0, hr0, hw0⟩ := open_cands (hval 0 44 v0 rfl rfl) h0
  obtain ⟨n1, rfl, hb1⟩ := open_u8 (hval 1 5 v1 rfl rfl) h1
  obtain ⟨n2, rfl, hb2⟩ := open_u8 (hval 2 5 v2 rfl rfl) h2
  obtain ⟨x3, rfl⟩ := open_cand (hval 3 53 v3 rfl rfl) h3
  clear hA0 hval0
  refine (walk_pickOrder W A0 c0 l0 hm0 hr0 hw0 n1 hb1 n2 hb2 x3).mono fun e W' ⟨he, bel⟩ => ?_
  subst he
  exact ⟨_, rfl, _, _, _, [], _, [], hW', trodAll_mk1 (shut_bool Try.underlying4 _), (trodAll_cons_mk (Below.trod laidOut (by kernel_rfl) (of_decide_eq_true (by kernel_rfl)) k0 bel lt0) (trodAll_cons_mk (Below.trod laidOut (by kernel_rfl) (of_decide_eq_true (by kernel_rfl)) k1 bel lt1) (trodAll_cons_mk (Below.trod laidOut (by kernel_rfl) (of_decide_eq_true (by kernel_rfl)) k2 bel lt2) (trodAll_cons_mk (Below.trod laidOut (by kernel_rfl) (of_decide_eq_true (by kernel_rfl)) k3 bel lt3) trodAll_mk0)))), rfl, bel.frame _, fun h => by cases h⟩

theorem pickOrder_holds : Rows.PickOrderSaid :=
  OpenClaim.holds_of_wide 10 Try.f10 rfl rfl rfl rfl rfl rfl rfl ⟨rfl, rfl, rfl, rfl, rfl⟩ rfl rfl rfl rfl rfl (by kernel_rfl) Try.func10 (by kernel_rfl)
    (of_decide_eq_true (by kernel_rfl)) (by unfold Func.isWrapper; first | (rw [if_pos (by decide +kernel)]; kernel_rfl) | (rw [if_neg (by decide +kernel)]; exact ⟨rfl, rfl⟩))
    (fun os started H enc _ => pickOrder_lifted os started H enc)

#print axioms pickOrder_holds
end Go.Proofs.Ytcmbmocineegoaa
