/-
  The package check: a node's children.
  Conditions: each child is sound.
-/
import Derived.Test.YtnlolhlbpdmljaaGreatDoorChkA
namespace Go.Proofs.YtnlolhlbpdmljaaGreatDoor
open Go.ChangeShapes Go.WideShapes Go.RowKit
theorem run_bs200 {ρ : Operand → Value} {o : Oper} {x y z : Operand} (ho : o.op = .buildSlice 200 3 #[(0, x), (1, y), (2, z)]) {A B C : Option Addr} {n c n' c' n'' c'' : Nat} (hx : ρ x = .slice A n c) (hy : ρ y = .slice B n' c') (hz : ρ z = .slice C n'' c'') (w : World) : (execOp ρ o).run Tryz.prog w = .ok (.value (.slice (some ⟨w.heap.size, 0, none⟩) 3 3)) (w.alloc (.cells #[.slice A n c, .slice B n' c', .slice C n'' c''] 33)) := by
  unfold execOp
  rw [ho]
  simp [go_sem, hx, hy, hz]
section
variable {a : Act} {o : Oper}
theorem run_call5 {f : FuncId} {x y z t r : Operand} {ts : Array TypeId} (ho : o.op = .call { callee := .value (.func f), args := #[x, y, z, t, r], argTypes := ts })
    (hcf : ∀ args w, (callFunc f args).run Tryz.prog w = .ok (.enter f args) w) {u v p q g : Value} (hx : a.eval x = u) (hy : a.eval y = v) (hz : a.eval z = p) (ht : a.eval t = q) (hr : a.eval r = g) (w : World) : (execOp a.eval o).run Tryz.prog w = .ok (.enter f #[u, v, p, q, g]) w := by
  rw [run_call ho rfl hcf]; simp [hx, hy, hz, ht, hr]
end
theorem Lk.rowAt {w0 w w' : World} {L M P : Nat} {lev lev' : Nat} {T T' : List Nat} {B d : Nat} {V : Nat → B8} {m : Nat} {s : SupT} {Fr Go : List Nat} (h : Lk w0 w L M P lev T B d V m s Fr Go) (k : Lk w w' L M P lev' T' B d V m s Fr Go) {t : TypeId} {v : Value} {xs : List Value} (hr : RowAt w t v xs) (ht : t ≠ 81) : RowAt w' t v xs :=
  hr.moved (fun _ _ hq => (h.row k hq ht).trans hq.symm)
set_option maxRecDepth 100000 in
set_option maxHeartbeats 4000000 in
theorem look_kids {w : World} {L M P : Nat} {lev : Nat} {T : List Nat} {B d : Nat} {V : Nat → B8} {m : Nat} {s : SupT} {Fr Go : List Nat} (h : Lk w w L M P lev T B d V m s Fr Go) (v : Value) (n : PN) (hn : NAt w v n) (hr : NRight n) (hkne : n.kids ≠ []) (depth lo hi lf : Nat) (hd : depth ≤ 13) (hlev : lev = 0 ∨ lev = lf) (pss : List (List Nat)) (hps : pss.length = n.kids.length)
    (ih : ∀ i, i < n.kids.length → ∀ (w' : World) (lev' : Nat), (lev' = 0 ∨ lev' = lf) → Lk w' w' L M P lev' (T ++ (pss.take i).flatten) B d V m s Fr Go → Calls Tryz.prog 46 #[.pointer (some ⟨L, 0, none⟩), .int .i64 (n.kids.getD i 0 : Int), .int .i64 ((depth + 1 : Nat) : Int), .int .i64 (edg lo n.keys hi i : Int), .int .i64 (edg lo n.keys hi (i + 1) : Int)] w' fun e w'' => e = .returned .nilIface ∧ Lk w' w'' L M P lf (T ++ (pss.take (i + 1)).flatten) B d V m s Fr Go) :
    Calls Tryz.prog 78 #[.pointer (some ⟨L, 0, none⟩), v, .int .i64 (depth : Int), .int .i64 (lo : Int), .int .i64 (hi : Int)] w fun e w' => e = .returned .nilIface ∧ Lk w w' L M P lf (T ++ pss.flatten) B d V m s Fr Go := by
  obtain ⟨sK, sV, sC, rfl, r1, r2, r3⟩ := hn
  obtain ⟨A1, c1, e1⟩ := r1.shape
  obtain ⟨A3, c3, e3⟩ := r3.shape
  rw [ints_length] at e1 e3
  have hkl : n.kids.length = n.keys.length + 1 := by
    rcases hr.shape with ⟨e, _⟩ | ⟨_, _, e, _⟩
    · exact absurd e hkne
    · exact e
  have h7 := hr.keys.1
  obtain ⟨S, hS⟩ : ∃ S, S = w.heap.size := ⟨_, rfl⟩
  obtain ⟨W1, hW1⟩ : ∃ W, W = w.alloc (.cells #[sK, sV, sC] 87) := ⟨_, rfl⟩
  obtain ⟨X, hX⟩ : ∃ S, S = W1.heap.size := ⟨_, rfl⟩
  obtain ⟨W2, hW2⟩ : ∃ W, W = W1.alloc (.cells #[.int .i64 (lo : Int)] 3) := ⟨_, rfl⟩
  obtain ⟨Y, hY⟩ : ∃ S, S = W2.heap.size := ⟨_, rfl⟩
  obtain ⟨W3, hW3⟩ : ∃ W, W = W2.alloc (.cells #[.int .i64 (hi : Int)] 3) := ⟨_, rfl⟩
  obtain ⟨Q, hQ⟩ : ∃ S, S = W3.heap.size := ⟨_, rfl⟩
  obtain ⟨W4, hW4⟩ : ∃ W, W = W3.alloc (.cells #[.slice (some ⟨X, 0, none⟩) 1 1, .slice A1 n.keys.length c1, .slice (some ⟨Y, 0, none⟩) 1 1] 33) := ⟨_, rfl⟩
  have b1 : Below w.heap.size w W1 := by rw [hW1]; exact (Below.refl _ _).alloc (Nat.le_refl _) _
  have b2 : Below W1.heap.size W1 W2 := by rw [hW2]; exact (Below.refl _ _).alloc (Nat.le_refl _) _
  have b3 : Below W2.heap.size W2 W3 := by rw [hW3]; exact (Below.refl _ _).alloc (Nat.le_refl _) _
  have b4 : Below W3.heap.size W3 W4 := by rw [hW4]; exact (Below.refl _ _).alloc (Nat.le_refl _) _
  have b34 := b3.trans (b4.mono b3.size)
  have b24 := b2.trans (b34.mono b2.size)
  have b14 := b1.trans (b24.mono b1.size)
  have s1 : W1.heap[S]? = some (.cells #[sK, sV, sC] 87 (0, 0)) := by rw [hW1, hS]; exact heap_alloc_new _ _
  have S2 := Lib.hid ((b2.block S (row_lt s1)).trans s1)
  have S4 := Lib.hid ((b24.block S (row_lt s1)).trans s1)
  have x2 : W2.heap[X]? = some (.cells #[.int .i64 (lo : Int)] 3 (0, 0)) := by rw [hW2, hX]; exact heap_alloc_new _ _
  have x4 := (b34.block X (row_lt x2)).trans x2
  have y3 : W3.heap[Y]? = some (.cells #[.int .i64 (hi : Int)] 3 (0, 0)) := by rw [hW3, hY]; exact heap_alloc_new _ _
  have y4 := (b4.block Y (row_lt y3)).trans y3
  have q4 : W4.heap[Q]? = some (.cells ([.slice (some ⟨X, 0, none⟩) 1 1, .slice A1 n.keys.length c1, .slice (some ⟨Y, 0, none⟩) 1 1] : List Value).toArray 33 (0, 0)) := by rw [hW4, hQ]; exact heap_alloc_new _ _
  have hfl : ([[lo], n.keys, [hi]] : List (List Nat)).flatten = edges lo n.keys hi := by unfold edges; simp
  have hfl2 : (edges lo n.keys hi).length = n.keys.length + 2 := by unfold edges; simp
  have hcat := concat_any W4 Q 3 [.slice (some ⟨X, 0, none⟩) 1 1, .slice A1 n.keys.length c1, .slice (some ⟨Y, 0, none⟩) 1 1] [[lo], n.keys, [hi]] rfl (by simp) q4 (fun i hi' => by
    have : i < 3 := hi'
    rcases Nat.lt_or_ge i 1 with h | h
    · have : i = 0 := by omega
      subst this; exact row_lit (xs := ints [lo]) x4 1
    · rcases Nat.lt_or_ge i 2 with h | h
      · have : i = 1 := by omega
        subst this
        have := r1.below b14
        rw [e1] at this
        exact this
      · have : i = 2 := by omega
        subst this; exact row_lit (xs := ints [hi]) y4 1) (by rw [hfl, hfl2]; omega) (by rw [hfl, hfl2]; omega)
  rw [hfl, hfl2] at hcat
  have CAT := Lib.hid hcat
  have LK4 := Lib.hid (h.below b14)
  have R3 := Lib.hid (r3.below b14)
  have A2 := Lib.hid (show ∀ (ρ : Operand → Value) (o : Oper), (execOp ρ o).run Tryz.prog W1 = .ok (.value (.slice (some ⟨W1.heap.size, 0, none⟩) 1 1)) (W1.alloc (.cells #[.int .i64 (lo : Int)] 3)) → (execOp ρ o).run Tryz.prog W1 = .ok (.value (.slice (some ⟨X, 0, none⟩) 1 1)) W2 from fun ρ o h => by rw [← hW2, ← hX] at h; exact h)
  have A3' := Lib.hid (show ∀ (ρ : Operand → Value) (o : Oper), (execOp ρ o).run Tryz.prog W2 = .ok (.value (.slice (some ⟨W2.heap.size, 0, none⟩) 1 1)) (W2.alloc (.cells #[.int .i64 (hi : Int)] 3)) → (execOp ρ o).run Tryz.prog W2 = .ok (.value (.slice (some ⟨Y, 0, none⟩) 1 1)) W3 from fun ρ o h => by rw [← hW3, ← hY] at h; exact h)
  have A4 := Lib.hid (show ∀ (ρ : Operand → Value) (o : Oper), (execOp ρ o).run Tryz.prog W3 = .ok (.value (.slice (some ⟨W3.heap.size, 0, none⟩) 3 3)) (W3.alloc (.cells #[.slice (some ⟨X, 0, none⟩) 1 1, .slice A1 n.keys.length c1, .slice (some ⟨Y, 0, none⟩) 1 1] 33)) → (execOp ρ o).run Tryz.prog W3 = .ok (.value (.slice (some ⟨Q, 0, none⟩) 3 3)) W4 from fun ρ o h => by rw [← hW4, ← hQ] at h; exact h)
  have S1 := Lib.hid s1
  have HS := Lib.hid hS
  have HW1 := Lib.hid hW1
  have IH := Lib.hid ih
  have KL := Lib.hid (show n.kids.length = n.keys.length + 1 ∧ n.keys.length ≤ 7 from ⟨hkl, h7⟩)
  have PS := Lib.hid hps
  have HD := Lib.hid hd
  have E1 := Lib.hid e1
  have LV := Lib.hid hlev
  clear h r1 r2 r3 hkl h7 hr hkne hS hW1 hX hW2 hY hW3 hQ hW4 b1 b2 b3 b4 b34 b24 b14 s1 x2 x4 y3 y4 q4 hfl hfl2 hcat ih hps hd hlev
  subst e1 e3
  go_enter Tryz.func78, Tryz.ntmps78
  go_upto_region 1 with fail
  rw [← HW1.out, ← HS.out]
  refine wp_region_lit ?_
  refine l_is (.move (.tmp 3)) rfl rfl (run_move_is (.tmp 3) (.int .i64 (lo : Int)) rfl rfl _) ?_
  simp only [Act.put, List.setIfInBounds_toArray, List.set_cons_succ, List.set_cons_zero]
  refine l_go (.buildSlice 33 1 #[(0, .tmp 15)]) rfl rfl (A2.out _ _ (run_bs33 (x := .tmp 15) rfl rfl _)) ?_
  simp only [Act.put, List.setIfInBounds_toArray, List.set_cons_succ, List.set_cons_zero]
  refine l_is (.fieldAddr 87 (.tmp 6) 0) rfl rfl (run_fld87_0 (x := .tmp 6) (d := S) rfl rfl _) ?_
  simp only [Act.put, List.setIfInBounds_toArray, List.set_cons_succ, List.set_cons_zero]
  refine l_is (.load 33 (.tmp 17)) rfl rfl (run_load_slice Tryz.underlying33 (x := .tmp 17) (a := ⟨S, 0, none⟩) rfl rfl (cell_of_row W2 S 0 _ 87 (0, 0) S2.out)) ?_
  simp only [Act.put, List.setIfInBounds_toArray, List.set_cons_succ, List.set_cons_zero]
  refine l_is (.move (.tmp 4)) rfl rfl (run_move_is (.tmp 4) (.int .i64 (hi : Int)) rfl rfl _) ?_
  simp only [Act.put, List.setIfInBounds_toArray, List.set_cons_succ, List.set_cons_zero]
  refine l_go (.buildSlice 33 1 #[(0, .tmp 19)]) rfl rfl (A3'.out _ _ (run_bs33 (x := .tmp 19) rfl rfl _)) ?_
  simp only [Act.put, List.setIfInBounds_toArray, List.set_cons_succ, List.set_cons_zero]
  refine l_go (.buildSlice 200 3 #[(0, .tmp 16), (1, .tmp 18), (2, .tmp 20)]) rfl rfl (A4.out _ _ (run_bs200 (x := .tmp 16) (y := .tmp 18) (z := .tmp 20) rfl rfl rfl rfl _)) ?_
  simp only [Act.put, List.setIfInBounds_toArray, List.set_cons_succ, List.set_cons_zero]
  go_wp2_with fail
  refine CAT.out.mono ?_
  rintro e w5 ⟨v5, rfl, ho5, hb5⟩
  obtain ⟨gE, cE, rfl, _⟩ := own_cap ho5 (by omega)
  have LK5 := Lib.hid (LK4.out.below hb5)
  have R5 := Lib.hid (R3.out.below hb5)
  have RE5 := Lib.hid (RowAt.own ho5)
  have c5 : w5.cell? ⟨S, 2, none⟩ = some (.slice A3 n.kids.length c3) := cell_of_row w5 S 2 _ 87 (0, 0) ((hb5.block S (row_lt S4.out)).trans S4.out)
  clear ho5 hb5 LK4 R3
  go_wp2_with fail
  clear c5
  go_loopw [26] (fun i' wr => ∃ k lv : Nat, i' = .int .i64 k ∧ k ≤ n.kids.length ∧ (lv = 0 ∨ lv = lf) ∧ (0 < k → lv = lf) ∧ Lk w wr L M P lv (T ++ (pss.take k).flatten) B d V m s Fr Go ∧ RowAt wr 3 (.slice (some ⟨gE, 0, none⟩) (n.keys.length + 2) cE) (ints (edges lo n.keys hi)) ∧ RowAt wr 3 (.slice A3 n.kids.length c3) (ints n.kids)) (fun i' _ => n.kids.length - (RowKit.intOf i').toNat)
  case atStart => exact ⟨0, lev, rfl, by omega, LV.out, by omega, by simpa using LK5.out, RE5.out, R5.out⟩
  case round =>
    obtain ⟨k, lv, rfl, hk, hlv, hlv2, hlk, hre, hrk⟩ := hrel
    have LK6 := Lib.hid hlk
    have RE6 := Lib.hid hre
    have RK6 := Lib.hid hrk
    have LV2 := Lib.hid hlv
    by_cases hlt : k < n.kids.length
    · obtain ⟨gk, ok, rfl, hck, _⟩ := hrk.at.2 k _ (ints_at hlt)
      obtain ⟨kid, hkid⟩ : ∃ y, y = n.kids[k] := ⟨_, rfl⟩
      rw [← hkid] at hck
      have hel : (edges lo n.keys hi).length = n.keys.length + 2 := by unfold edges; simp
      have hkk := KL.out
      have EC := Lib.hid (show ∀ w', RowAt w' 3 (.slice (some ⟨gE, 0, none⟩) (n.keys.length + 2) cE) (ints (edges lo n.keys hi)) → ∀ j, j ≤ k + 1 → w'.cell? ⟨gE, j, none⟩ = some (.int .i64 (edg lo n.keys hi j : Int)) from fun w' hw j hj => by
        obtain ⟨g', o', e', hc, _⟩ := hw.at.2 j _ (ints_at (by omega))
        injection e' with e'
        injection e' with ea eb _
        rw [← ea, ← eb, Nat.zero_add] at hc
        rw [hc]
        unfold edg
        rw [List.getD_eq_getElem?_getD, List.getElem?_eq_getElem (by omega)]
        rfl)
      have CALL := Lib.hid (IH.out k hlt wr.drew lv hlv ((hlk.self).below (Below.refl _ _).drew).self)
      have hkd : n.kids.getD k 0 = kid := by rw [List.getD_eq_getElem?_getD, List.getElem?_eq_getElem hlt, hkid]; rfl
      rw [hkd] at CALL
      obtain ⟨ea, hea⟩ : ∃ y, y = edg lo n.keys hi k := ⟨_, rfl⟩
      obtain ⟨eb, heb⟩ : ∃ y, y = edg lo n.keys hi (k + 1) := ⟨_, rfl⟩
      rw [← hea, ← heb] at CALL
      have HLT := Lib.hid hlt
      have hk100 : k ≤ 100 := by omega
      have EC2 := Lib.hid (show ∀ w', RowAt w' 3 (.slice (some ⟨gE, 0, none⟩) (n.keys.length + 2) cE) (ints (edges lo n.keys hi)) → w'.cell? ⟨gE, k, none⟩ = some (.int .i64 (ea : Int)) ∧ w'.cell? ⟨gE, k + 1, none⟩ = some (.int .i64 (eb : Int)) from fun w' hw => by rw [hea, heb]; exact ⟨EC.out w' hw k (by omega), EC.out w' hw (k + 1) (by omega)⟩)
      clear hk hlv hlv2 hlk hre hrk hkid hel hkk hkd hea heb EC
      go_upto_region 5 with fail
      obtain ⟨v0, hv0⟩ : ∃ u, u = wr.drew := ⟨_, rfl⟩
      have RE7 := Lib.hid (show RowAt wr.drew 3 (.slice (some ⟨gE, 0, none⟩) (n.keys.length + 2) cE) (ints (edges lo n.keys hi)) from RE6.out.below (Below.refl _ _).drew)
      have LK7 := Lib.hid (show Lk w wr.drew L M P lv (T ++ (pss.take k).flatten) B d V m s Fr Go from LK6.out.below (Below.refl _ _).drew)
      have RK7 := Lib.hid (show RowAt wr.drew 3 (.slice (some ⟨gk, ok, none⟩) n.kids.length c3) (ints n.kids) from RK6.out.below (Below.refl _ _).drew)
      rw [← hv0] at RE7 LK7 RK7 CALL
      have HV0 := Lib.hid hv0.symm
      clear hv0 hck
      have CD := Lib.hid (fun (w' : World) (h : (fun (_ : Bool) (w' : World) => RowAt w' 3 (.slice (some ⟨gE, 0, none⟩) (n.keys.length + 2) cE) (ints (edges lo n.keys hi))) false w') => show (fun (_ : Bool) (w' : World) => RowAt w' 3 (.slice (some ⟨gE, 0, none⟩) (n.keys.length + 2) cE) (ints (edges lo n.keys hi))) true w' from h)
      refine k_region [] (fun (_ : Bool) (w' : World) => RowAt w' 3 (.slice (some ⟨gE, 0, none⟩) (n.keys.length + 2) cE) (ints (edges lo n.keys hi))) 15 rfl (by kernel_rfl) ?_
      rw [HV0.out]
      refine k_take 0 rfl (some 31) rfl (by kernel_rfl) (by kernel_rfl) (by kernel_rfl) (fun _ _ _ h => h) (by kernel_rfl) (by kernel_rfl) CD.out rfl (fun w' hw' => run_move_is (.tmp 0) (.pointer (some ⟨L, 0, none⟩)) rfl rfl w') RE7.out ?_
      simp only [Act.put, List.setIfInBounds_toArray, List.set_cons_succ, List.set_cons_zero]
      refine k_take 1 rfl (some 32) rfl (by kernel_rfl) (by kernel_rfl) (by kernel_rfl) (fun _ _ _ h => h) (by kernel_rfl) (by kernel_rfl) CD.out rfl (fun w' hw' => run_move_is (.tmp 13) (.int .i64 (kid : Int)) rfl rfl w') RE7.out ?_
      simp only [Act.put, List.setIfInBounds_toArray, List.set_cons_succ, List.set_cons_zero]
      refine k_take 2 rfl (some 33) rfl (by kernel_rfl) (by kernel_rfl) (by kernel_rfl) (fun _ _ _ h => h) (by kernel_rfl) (by kernel_rfl) CD.out rfl (fun w' hw' => run_move_is (.tmp 2) (.int .i64 (depth : Int)) rfl rfl w') RE7.out ?_
      simp only [Act.put, List.setIfInBounds_toArray, List.set_cons_succ, List.set_cons_zero]
      refine k_take 3 rfl (some 34) rfl (by kernel_rfl) (by kernel_rfl) (by kernel_rfl) (fun _ _ _ h => h) (by kernel_rfl) (by kernel_rfl) CD.out rfl (fun w' hw' => run_add_is (x := .tmp 33) (y := .const (.int .i64 1)) rfl rfl rfl ((depth + 1 : Nat) : Int) (by have := HD.out; omega) w') RE7.out ?_
      simp only [Act.put, List.setIfInBounds_toArray, List.set_cons_succ, List.set_cons_zero]
      refine k_take 4 rfl (some 35) rfl (by kernel_rfl) (by kernel_rfl) (by kernel_rfl) (fun _ _ _ h => h) (by kernel_rfl) (by kernel_rfl) CD.out rfl (fun w' hw' => run_move_is (.tmp 11) (.slice (some ⟨gE, 0, none⟩) (n.keys.length + 2) cE) rfl rfl w') RE7.out ?_
      simp only [Act.put, List.setIfInBounds_toArray, List.set_cons_succ, List.set_cons_zero]
      refine k_take 5 rfl (some 36) rfl (by kernel_rfl) (by kernel_rfl) (by kernel_rfl) (fun _ _ _ h => h) (by kernel_rfl) (by kernel_rfl) CD.out rfl (fun w' hw' => run_move_is (.tmp 12) (.int .i64 (k : Int)) rfl rfl w') RE7.out ?_
      simp only [Act.put, List.setIfInBounds_toArray, List.set_cons_succ, List.set_cons_zero]
      refine k_take 6 rfl (some 37) rfl (by kernel_rfl) (by kernel_rfl) (by kernel_rfl) (fun _ _ _ h => h) (by kernel_rfl) (by kernel_rfl) CD.out rfl (fun w' hw' => run_at_nat (x := .tmp 35) (y := .tmp 36) rfl Tryz.underlying33 size3' rfl rfl (by have := HLT.out; have := KL.out; omega) w') RE7.out ?_
      simp only [Act.put, List.setIfInBounds_toArray, List.set_cons_succ, List.set_cons_zero]
      refine k_take 7 rfl (some 38) rfl (by kernel_rfl) (by kernel_rfl) (by kernel_rfl) (fun _ _ _ h => h) (by kernel_rfl) (by kernel_rfl) CD.out rfl (fun w' hw' => run_load_int (x := .tmp 37) rfl Tryz.underlying3 rfl (EC2.out w' hw').1) RE7.out ?_
      simp only [Act.put, List.setIfInBounds_toArray, List.set_cons_succ, List.set_cons_zero]
      refine k_take 8 rfl (some 39) rfl (by kernel_rfl) (by kernel_rfl) (by kernel_rfl) (fun _ _ _ h => h) (by kernel_rfl) (by kernel_rfl) CD.out rfl (fun w' hw' => run_move_is (.tmp 11) (.slice (some ⟨gE, 0, none⟩) (n.keys.length + 2) cE) rfl rfl w') RE7.out ?_
      simp only [Act.put, List.setIfInBounds_toArray, List.set_cons_succ, List.set_cons_zero]
      refine k_take 9 rfl (some 40) rfl (by kernel_rfl) (by kernel_rfl) (by kernel_rfl) (fun _ _ _ h => h) (by kernel_rfl) (by kernel_rfl) CD.out rfl (fun w' hw' => run_move_is (.tmp 12) (.int .i64 (k : Int)) rfl rfl w') RE7.out ?_
      simp only [Act.put, List.setIfInBounds_toArray, List.set_cons_succ, List.set_cons_zero]
      refine k_take 10 rfl (some 41) rfl (by kernel_rfl) (by kernel_rfl) (by kernel_rfl) (fun _ _ _ h => h) (by kernel_rfl) (by kernel_rfl) CD.out rfl (fun w' hw' => run_add_is (x := .tmp 40) (y := .const (.int .i64 1)) rfl rfl rfl ((k + 1 : Nat) : Int) (by have := HLT.out; have := KL.out; omega) w') RE7.out ?_
      simp only [Act.put, List.setIfInBounds_toArray, List.set_cons_succ, List.set_cons_zero]
      refine k_take 11 rfl (some 42) rfl (by kernel_rfl) (by kernel_rfl) (by kernel_rfl) (fun _ _ _ h => h) (by kernel_rfl) (by kernel_rfl) CD.out rfl (fun w' hw' => run_at_nat (x := .tmp 39) (y := .tmp 41) rfl Tryz.underlying33 size3' rfl rfl (by have := HLT.out; have := KL.out; omega) w') RE7.out ?_
      simp only [Act.put, List.setIfInBounds_toArray, List.set_cons_succ, List.set_cons_zero]
      refine k_take 12 rfl (some 43) rfl (by kernel_rfl) (by kernel_rfl) (by kernel_rfl) (fun _ _ _ h => h) (by kernel_rfl) (by kernel_rfl) CD.out rfl (fun w' hw' => run_load_int (x := .tmp 42) rfl Tryz.underlying3 rfl (EC2.out w' hw').2) RE7.out ?_
      simp only [Act.put, List.setIfInBounds_toArray, List.set_cons_succ, List.set_cons_zero]
      refine k_one 13 (by kernel_rfl) ?_
      refine k_call rfl (some 44) rfl rfl false (by kernel_rfl) (run_call5 (x := .tmp 31) (y := .tmp 32) (z := .tmp 34) (t := .tmp 38) (r := .tmp 43) rfl Tryz.call46 rfl rfl rfl rfl rfl _) CALL.out ?_
      rintro e w8 ⟨rfl, hk8⟩
      have RE8 := Lib.hid (LK7.out.rowAt hk8 RE7.out (by decide))
      have RK8 := Lib.hid (LK7.out.rowAt hk8 RK7.out (by decide))
      have LK8 := Lib.hid (LK7.out.then hk8)
      clear hk8
      refine ⟨_, rfl, RE8.out, ?_⟩
      simp only [Act.put, List.setIfInBounds_toArray, List.set_cons_succ, List.set_cons_zero]
      refine k_one 14 (by kernel_rfl) ?_
      refine k_val rfl (some 14) rfl rfl false (by kernel_rfl) (run_assign_is (.tmp 44) (.nilIface) rfl rfl _) RE8.out ?_
      simp only [Act.put, List.setIfInBounds_toArray, List.set_cons_succ, List.set_cons_zero]
      refine k_done (by kernel_rfl) ?_
      clear LK6 RE6 RK6 RE7 LK7 RK7 CD CALL
      go_wp2
      go_roundw
      case rel => exact ⟨k + 1, lf, by go_num, HLT.out, .inr rfl, fun _ => rfl, LK8.out, RE8.out, RK8.out⟩
      case measure => have := HLT.out; simp [RowKit.intOf]; omega
    · have hke : pss.take k = pss := List.take_of_length_le (by have := PS.out; omega)
      rw [hke] at hlk
      have := KL.out
      have hl : lv = lf := hlv2 (by omega)
      subst hl
      have LKE := Lib.hid hlk
      clear hlk hre hrk this
      go_wp2_with fail
      go_ret
      exact ⟨rfl, LKE.out⟩
end Go.Proofs.YtnlolhlbpdmljaaGreatDoor
