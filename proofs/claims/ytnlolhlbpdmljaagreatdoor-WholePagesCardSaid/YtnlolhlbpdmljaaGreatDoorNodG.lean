/-
  node.parts of a node that was laid.
  Conditions: the node is right.
-/
import Derived.Test.YtnlolhlbpdmljaaGreatDoorNodF
namespace Go.Proofs.YtnlolhlbpdmljaaGreatDoor
open Go.ChangeShapes Go.WideShapes Go.RowKit
theorem Part.grown {w wr w' : World} {Db Ob Fb R B e s m : Nat} {rest : B8} {v : Value} {xs : List Value} (h : Part w wr Db Ob Fb R rest) (ho : wr.ownsRow B e s v m xs) (hB : w.heap.size ≤ B ∧ Db < B ∧ Ob < B ∧ Fb < B ∧ R < B) (k : wr.grownBy w' v.ownBlock) : Part w w' Db Ob Fb R rest :=
  h.kept (S := fun q => v.ownBlock = some q) ⟨k.os, k.tape, k.output, k.size, fun q hq hne => k.block q hq (fun e => hne e.symm)⟩ (fun q hq => by have := (own_lt ho hq).2; omega)
theorem node_grown {wr w' : World} {N B e s m : Nat} {v : Value} {xs : List Value} {cs : Array Value} (h : wr.heap[N]? = some (.cells cs 87 (0, 0))) (ho : wr.ownsRow B e s v m xs) (hB : N < B) (k : wr.grownBy w' v.ownBlock) : w'.heap[N]? = some (.cells cs 87 (0, 0)) :=
  (k.block N (row_lt h) (fun e => by have := (own_lt ho e.symm).2; omega)).trans h
theorem own_setBox {w : World} {B e s m b : Nat} {v u : Value} {xs : List Value} (h : w.ownsRow B e s v m xs) (hb : b < B) : (w.setCell ⟨b, 0, none⟩ u).ownsRow B e s v m xs :=
  own_row h (fun k hk => Below.heap_setCell _ _ _ _ (fun e => by have h1 := (own_lt h hk).2; have h2 : k = b := e; omega))
theorem own_setBoxJ {w : World} {B e s m b j : Nat} {v u : Value} {xs : List Value} (h : w.ownsRow B e s v m xs) (hb : b < B) : (w.setCell ⟨b, j, none⟩ u).ownsRow B e s v m xs :=
  own_row h (fun k hk => Below.heap_setCell _ _ _ _ (fun e => by have h1 := (own_lt h hk).2; have h2 : k = b := e; omega))
theorem own_alloc {w : World} {B e s m : Nat} {v : Value} {xs : List Value} (h : w.ownsRow B e s v m xs) (o : Obj) : (w.alloc o).ownsRow B e s v m xs :=
  own_row h (fun _ hk => Below.heap_alloc _ _ _ (own_lt h hk).1)
theorem setCell_size (w : World) (a : Addr) (v : Value) : (w.setCell a v).heap.size = w.heap.size := by simp [World.setCell]
theorem Part.setNode {w wr : World} {Db Ob Fb R N j : Nat} {rest : B8} {cs : Array Value} (h : Part w wr Db Ob Fb R rest) (hN : wr.heap[N]? = some (.cells cs 87 (0, 0))) (hNR : N ≠ R) (hg : w.heap.size ≤ N) (v : Value) : Part w (wr.setCell ⟨N, j, none⟩ v) Db Ob Fb R rest :=
  h.kept (S := (· = N)) ⟨rfl, rfl, rfl, by rw [setCell_size]; exact Nat.le_refl _, fun q _ hq => Below.heap_setCell _ _ _ _ hq⟩ (fun x hx => by
    subst hx
    exact ⟨hg, fun e => cells_ne hN h.data (by decide) e, fun e => cells_ne hN h.ok (by decide) e, fun e => cells_ne hN h.fn (by decide) e, hNR⟩)
theorem results_node {fn : Func} {p u : Tmp} (h : fn.results = #[.cell p 87, .tmp u]) (tmps : Array Value) (w : World) (g : Nat) {a b c : Value} {t : TypeId} {fr : Nat × Nat} (v : Value)
    (hp : tmps.getD p undef = .pointer (some ⟨g, 0, none⟩)) (hg : w.heap[g]? = some (.cells #[a, b, c] t fr)) (hv : tmps.getD u undef = v) :
    (results fn tmps).run Tryz.prog w = .ok (.tuple #[.agg #[a, b, c], v]) w := by
  rw [results_cell_tmp h, hp, hv]
  simp only [asAddr, Sem.run_pure, Result.andThen_ok, run_loadVar_row w g t 87 #[a, b, c] fr _ hg Tryz.underlying87 rfl size87]
section
variable {ρ : Operand → Value} {o : Oper}
theorem run_load_str {x : Operand} (ho : o.op = .load 9 x) {a : Addr} (hx : ρ x = .pointer (some a)) {v : Value} {w : World} (hc : w.cell? a = some v) : (execOp ρ o).run Tryz.prog w = .ok (.value v) w := by
  unfold execOp
  rw [ho]
  simp [hx, Instr.loadAt, Instr.sureAddr, loadVar, isAgg, Sem.run_bind, run_underlying Tryz.underlying9, load, Sem.run, hc]
theorem run_eql_empty {x : Operand} {t' : TypeId} (ho : o.op = .binOp .eql 9 x (.const (.string { data := #[] })) t') (hx : ρ x = .string (strB [])) (hy : ρ (.const (.string { data := #[] })) = .string { data := #[] }) (w : World) : (execOp ρ o).run Tryz.prog w = .ok (.value (.bool true)) w := by
  have e : strB [] = { data := #[] } := rfl
  rw [e] at hx
  unfold execOp
  rw [ho]
  simp [hx, hy, go_sem, eqGuard]
theorem run_store_row87 {x y : Operand} (ho : o.op = .store 87 x y) {g : Nat} {a b c : Value} (hx : ρ x = .pointer (some ⟨g, 0, none⟩)) (hy : ρ y = .agg #[a, b, c]) {t : TypeId} {p q r : Value} {w : World} (hg : w.heap[g]? = some (.cells #[p, q, r] t (0, 0))) (h3 : (#[a, b, c] : Array Value).all (·.oneCell') = true) : (execOp ρ o).run Tryz.prog w = .ok .skip (w.setRow g #[a, b, c]) := by
  have hr := run_storeVar_row (P := Tryz.prog) w g t 87 #[p, q, r] #[a, b, c] hg size87 rfl h3
  unfold execOp
  rw [ho]
  simp only [hx, hy, Instr.storeAt, Instr.sureAddr, Sem.run_bind, Sem.run_pure, Result.andThen_ok, hr]
end
theorem rest_take {w : Nat} {x : Nat} {t : B8} (hx : x < 256 ^ w) : unbe ((be w x ++ t).take w) = x ∧ (be w x ++ t).drop w = t := by
  rw [List.take_left' (be_length _ _), List.drop_left' (be_length _ _)]
  exact ⟨unbe_be w x hx, rfl⟩
set_option maxRecDepth 100000 in
set_option maxHeartbeats 8000000 in
theorem parts_any (w : World) (n : PN) (hr : NRight n) : Calls Tryz.prog 96 #[.string (strB (nlay n))] w fun e w' => ∃ vK vV vC, e = .returned (.tuple #[.agg #[vK, vV, vC], .bool true]) ∧ w'.ownsRow w.heap.size 3 1 vK n.keys.length (ints n.keys) ∧ w'.ownsRow w.heap.size 9 1 vV n.vals.length (strs n.vals) ∧ w'.ownsRow w.heap.size 3 1 vC n.kids.length (ints n.kids) ∧ (∀ q, vK.ownBlock = some q → vC.ownBlock ≠ some q) ∧ Below w.heap.size w w' := by
  obtain ⟨i3, hi3, hz3, hs3, hb3⟩ := info_parts info3
  obtain ⟨i9, hi9, hz9, hs9, hb9⟩ := info_parts info9
  have SZ := Lib.hid hr.size
  have HR := Lib.hid hr
  have h7 := hr.size.keys
  have h7k := hr.size.kids
  have h7v := hr.size.nvals
  have NL := Lib.hid (nlay_length hr)
  have KL := nkind_le n
  obtain ⟨Db, hDb⟩ : ∃ u, u = w.heap.size := ⟨_, rfl⟩
  obtain ⟨R, hR⟩ : ∃ u, u = w.heap.size + 1 := ⟨_, rfl⟩
  obtain ⟨Ob, hOb⟩ : ∃ u, u = w.heap.size + 1 + 1 := ⟨_, rfl⟩
  obtain ⟨Fb, hFb⟩ : ∃ u, u = w.heap.size + 1 + 1 + 1 := ⟨_, rfl⟩
  obtain ⟨W0, hW0⟩ : ∃ u, u = ((w.alloc (.cells #[.string (strB (nlay n))] 9)).alloc (.cells #[nilS, nilS, nilS] 87)).alloc (.cells #[.bool true] 4) := ⟨_, rfl⟩
  obtain ⟨W1, hW1⟩ : ∃ u, u = W0.alloc (.cells #[.nilFunc] 198) := ⟨_, rfl⟩
  obtain ⟨W2, hW2⟩ : ∃ u, u = W1.setRow Fb #[takeF Db Ob] := ⟨_, rfl⟩
  have z0 : W0.heap.size = w.heap.size + 1 + 1 + 1 := by rw [hW0]; simp
  have f1 : W1.heap[Fb]? = some (.cells #[.nilFunc] 198 (0, 0)) := by rw [hW1, hFb, ← z0]; exact heap_alloc_new _ _
  have old : ∀ k, k < W0.heap.size → W2.heap[k]? = W0.heap[k]? := fun k hk => by
    rw [hW2, setRow_other _ _ _ _ (by omega), hW1]
    exact Below.heap_alloc _ _ _ hk
  have P2 := Lib.hid (show Part w W2 Db Ob Fb R (nlay n) from by
    refine ⟨?_, ?_, by rw [hW2]; exact setRow_has f1, ?_, ⟨by omega, by omega, ?_⟩, ?_⟩
    · rw [old Db (by omega), hW0, hDb, Below.heap_alloc _ _ _ (by simp; omega), Below.heap_alloc _ _ _ (by simp)]; exact heap_alloc_new _ _
    · rw [old Ob (by omega), hW0, hOb, show w.heap.size + 1 + 1 = ((w.alloc (.cells #[.string (strB (nlay n))] 9)).alloc (.cells #[nilS, nilS, nilS] 87)).heap.size by simp]; exact heap_alloc_new _ _
    · rw [old R (by omega), hW0, hR, Below.heap_alloc _ _ _ (by simp), show w.heap.size + 1 = (w.alloc (.cells #[.string (strB (nlay n))] 9)).heap.size by simp]; exact heap_alloc_new _ _
    · rw [hW2, setRow_size, hW1]; simp; omega
    · rw [hW2]
      refine below_setRow ?_ (by omega) _
      rw [hW1, hW0]
      exact ((((Below.refl _ _).alloc (Nat.le_refl _) _).alloc (by simp) _).alloc (by simp; omega) _).alloc (by simp; omega) _)
  have F1 := Lib.hid f1
  have HDb := Lib.hid hDb
  have HR_ := Lib.hid hR
  have HOb := Lib.hid hOb
  have HFb := Lib.hid hFb
  have HW1 := Lib.hid (show W1 = (((w.alloc (.cells #[.string (strB (nlay n))] 9)).alloc (.cells #[nilS, nilS, nilS] 87)).alloc (.cells #[.bool true] 4)).alloc (.cells #[.nilFunc] 198) by rw [hW1, hW0])
  have HW2 := Lib.hid hW2.symm
  have BOX := Lib.hid (show Db < Fb + 1 ∧ Ob < Fb + 1 ∧ R < Fb + 1 ∧ w.heap.size ≤ Fb ∧ W2.heap.size = Fb + 1 by
    refine ⟨by omega, by omega, by omega, by omega, ?_⟩
    rw [hW2, setRow_size, hW1]; simp; omega)
  clear z0 f1 old hDb hR hOb hFb hW0 hW1 hW2 hr
  -- the kind and the count
  obtain ⟨T0, hT0⟩ : ∃ t, t = keyB n.keys ++ (n.vals.flatten ++ kidB n.kids) := ⟨_, rfl⟩
  have hlay : nlay n = be 1 (nkind n) ++ (be 1 n.keys.length ++ T0) := by unfold nlay nhead; rw [hT0]; simp only [List.append_assoc]
  have l0 := NL.out
  rw [hlay] at P2
  have hlen : (be 1 (nkind n) ++ (be 1 n.keys.length ++ T0)).length ≤ 114 := by rw [← hlay]; exact l0
  have r0 := rest_take (w := 1) (x := nkind n) (t := be 1 n.keys.length ++ T0) (by omega)
  have r1 := rest_take (w := 1) (x := n.keys.length) (t := T0) (by omega)
  have P3 := Lib.hid (P2.out.took (be 1 n.keys.length ++ T0))
  have P4_ := Lib.hid (P3.out.took T0)
  have C1 := number_any W2 1 Db Ob Fb _ (by omega) (by omega) (by omega) (by rw [List.length_append, be_length]; omega) P2.out.data P2.out.fn
  rw [r0.1, r0.2] at C1
  have C2 := number_any _ 1 Db Ob Fb _ (by rw [List.length_append, be_length] at hlen; omega) (by omega) (by omega) (by rw [List.length_append, be_length]; omega) P3.out.data P3.out.fn
  rw [r1.1, r1.2] at C2
  obtain ⟨W3, hW3⟩ : ∃ u, u = W2.setCell ⟨Db, 0, none⟩ (.string (strB (be 1 n.keys.length ++ T0))) := ⟨_, rfl⟩
  rw [← hW3] at C1 C2 P3 P4_
  obtain ⟨W4, hW4⟩ : ∃ u, u = W3.setCell ⟨Db, 0, none⟩ (.string (strB T0)) := ⟨_, rfl⟩
  rw [← hW4] at C2 P4_
  have C1 := Lib.hid C1
  have C2 := Lib.hid C2
  obtain ⟨N, hN⟩ : ∃ u, u = W4.heap.size := ⟨_, rfl⟩
  obtain ⟨W5, hW5⟩ : ∃ u, u = W4.alloc (.cells #[nilS, nilS, nilS] 87) := ⟨_, rfl⟩
  have hWz : W4.heap.size = Fb + 1 := by rw [hW4, hW3, setCell_size, setCell_size]; exact BOX.out.2.2.2.2
  have bb := (Below.refl W4.heap.size W4).alloc (Nat.le_refl _) (.cells #[nilS, nilS, nilS] 87)
  rw [← hW5] at bb
  have P5 := Lib.hid (P4_.out.below bb)
  have N5 := Lib.hid (show W5.heap[N]? = some (.cells #[nilS, nilS, nilS] 87 (0, 0)) by rw [hW5, hN]; exact heap_alloc_new _ _)
  have HN := Lib.hid hN
  have HW5 := Lib.hid hW5
  obtain ⟨BB, hBB⟩ : ∃ u, u = N + 1 := ⟨_, rfl⟩
  have HBB := Lib.hid (show w.heap.size ≤ BB ∧ Db < BB ∧ Ob < BB ∧ Fb < BB ∧ R < BB ∧ N < BB ∧ BB ≤ N + 1 by have := BOX.out; omega)
  have HNR := Lib.hid (show N ≠ R ∧ w.heap.size ≤ N by have := BOX.out; omega)
  have LT0 := Lib.hid (show T0.length ≤ 114 by rw [List.length_append, List.length_append, be_length, be_length] at hlen; omega)
  have HT0 := Lib.hid hT0
  have hk1 : ¬ (1 : Int) < (nkind n : Int) := by omega
  have hk7 : ¬ (7 : Int) < (n.keys.length : Int) := by omega
  have BEGIN := Lib.hid (show (∃ (k : Nat) (vK : Value), (Value.int .i64 0) = .int .i64 (k : Int) ∧ k ≤ n.keys.length ∧ Part w W5 Db Ob Fb R (keyB (n.keys.drop k) ++ (n.vals.flatten ++ kidB n.kids)) ∧ W5.heap[N]? = some (.cells #[vK, nilS, nilS] 87 (0, 0)) ∧ W5.ownsRow BB 3 1 vK k (ints (n.keys.take k))) from
    ⟨0, nilS, rfl, by omega, by rw [List.drop_zero, ← HT0.out]; exact P5.out, N5.out, World.ownsRow_nil _ _ _ _⟩)
  clear hT0 hlay l0 hlen r0 r1 hW3 hW4 hN hW5 hWz bb hBB P2 P3 P4_
  go_enter Tryz.func96, Tryz.ntmps96
  go_upto_region 4 with (rw [← HW1.out, ← HFb.out, ← HOb.out, ← HR_.out, ← HDb.out]; refine wpList_store_oneTo rfl 198 (.tmp 5) (.tmp 10) rfl rfl Fb (takeF Db Ob) rfl rfl rfl 198 .nilFunc F1.out size198 ?_; rw [HW2.out])
  go_wp2_with fail
  refine C1.out.mono ?_
  rintro e w3 ⟨rfl, rfl⟩
  go_wp2_with fail
  refine C2.out.mono ?_
  rintro e w4 ⟨rfl, rfl⟩
  go_upto_region 6 with fail
  rw [← HW5.out, ← HN.out]
  go_wp2_with fail
  go_loopw [24] (fun i' wr => ∃ (k : Nat) (vK : Value), i' = .int .i64 (k : Int) ∧ k ≤ n.keys.length ∧ Part w wr Db Ob Fb R (keyB (n.keys.drop k) ++ (n.vals.flatten ++ kidB n.kids)) ∧ wr.heap[N]? = some (.cells #[vK, nilS, nilS] 87 (0, 0)) ∧ wr.ownsRow BB 3 1 vK k (ints (n.keys.take k))) (fun i' _ => n.keys.length - (RowKit.intOf i').toNat)
  case atStart => exact BEGIN.out
  case round =>
    obtain ⟨k, v, rfl, hk, hp, hn, ho⟩ := hrel
    have NN := Lib.hid hn
    have OO := Lib.hid ho
    clear hn ho BEGIN
    by_cases hlt : k < n.keys.length
    · obtain ⟨x, hx⟩ : ∃ x, x = n.keys[k] := ⟨_, rfl⟩
      obtain ⟨rest, hrest⟩ : ∃ r, r = keyB (n.keys.drop k) ++ (n.vals.flatten ++ kidB n.kids) := ⟨_, rfl⟩
      obtain ⟨rest', hrest'⟩ : ∃ r, r = keyB (n.keys.drop (k + 1)) ++ (n.vals.flatten ++ kidB n.kids) := ⟨_, rfl⟩
      have hsp : rest = be 4 x ++ rest' := by
        rw [hrest, hrest', List.drop_eq_getElem_cons hlt, hx]
        unfold keyB
        rw [List.flatMap_cons, List.append_assoc]
      have HX := Lib.hid (show unbe (rest.take 4) = x ∧ rest.drop 4 = rest' by rw [hsp]; exact rest_take (by have := SZ.out.key x (by rw [hx]; exact List.getElem_mem _); omega))
      have HRL := Lib.hid (show rest.length ≤ 1000 ∧ 4 ≤ rest.length by
        refine ⟨?_, by rw [hsp, List.length_append, be_length]; omega⟩
        have h1 := LT0.out
        rw [HT0.out, List.length_append, keyB_length] at h1
        rw [hrest, List.length_append, keyB_length, List.length_drop]; omega)
      rw [← hrest] at hp
      have PP := Lib.hid hp
      have NX := Lib.hid (show ints (n.keys.take (k + 1)) = ints (n.keys.take k) ++ [.int .i64 (x : Int)] by
        rw [List.take_add_one, List.getElem?_eq_getElem hlt, ints_append, hx]; rfl)
      have HLT := Lib.hid hlt
      have HRS := Lib.hid hrest'
      clear hrest hrest' hsp hp hx
      go_upto_region 10 with fail
      obtain ⟨w4, hw4⟩ : ∃ u, u = wr.drew := ⟨_, rfl⟩
      have HD4 := Lib.hid hw4.symm
      have P4 := Lib.hid (show Part w w4 Db Ob Fb R rest by rw [hw4]; exact PP.out.below (Below.refl _ _).drew)
      have N4 := Lib.hid (show w4.heap[N]? = some (.cells #[v, nilS, nilS] 87 (0, 0)) by rw [hw4]; exact NN.out)
      have O4 := Lib.hid (show w4.ownsRow BB 3 1 v k (ints (n.keys.take k)) by rw [hw4]; exact OO.out)
      have CALL := Lib.hid (number_any w4 4 Db Ob Fb rest HRL.out.1 (by omega) (by omega) HRL.out.2 P4.out.data P4.out.fn)
      rw [HX.out.1, HX.out.2] at CALL
      obtain ⟨Wc, hWc⟩ : ∃ u, u = w4.setCell ⟨Db, 0, none⟩ (.string (strB rest')) := ⟨_, rfl⟩
      rw [← hWc] at CALL
      have Pc := Lib.hid (show Part w Wc Db Ob Fb R rest' by rw [hWc]; exact P4.out.took rest')
      have Nc := Lib.hid (show Wc.heap[N]? = some (.cells #[v, nilS, nilS] 87 (0, 0)) by rw [hWc]; exact (Below.heap_setCell _ _ _ _ (cells_ne N4.out P4.out.data (by decide))).trans N4.out)
      have Oc := Lib.hid (show Wc.ownsRow BB 3 1 v k (ints (n.keys.take k)) by rw [hWc]; exact own_setBox O4.out HBB.out.2.1)
      obtain ⟨Wb, hWb⟩ : ∃ u, u = Wc.alloc (.cells #[.int .i64 (x : Int)] 3) := ⟨_, rfl⟩
      obtain ⟨G, hG⟩ : ∃ u, u = Wc.heap.size := ⟨_, rfl⟩
      have bb := (Below.refl Wc.heap.size Wc).alloc (Nat.le_refl _) (.cells #[.int .i64 (x : Int)] 3)
      rw [← hWb] at bb
      have Pb := Lib.hid (Pc.out.below bb)
      have Nb := Lib.hid ((bb.block N (row_lt Nc.out)).trans Nc.out)
      have Ob_ := Lib.hid (show Wb.ownsRow BB 3 1 v k (ints (n.keys.take k)) by rw [hWb]; exact own_alloc Oc.out _)
      have X5 := Lib.hid (show Wb.heap[G]? = some (.cells #[.int .i64 (x : Int)] 3 (0, 0)) by rw [hWb, hG]; exact heap_alloc_new _ _)
      have RB := Lib.hid (fun (ρ : Operand → Value) (o : Oper) (ho : o.op = .buildSlice 33 1 #[(0, .tmp 29)]) (hx : ρ (.tmp 29) = .int .i64 (x : Int)) => by
        have h := run_bs33 (ρ := ρ) (o := o) ho hx Wc
        rw [← hWb, ← hG] at h
        exact h)
      have BSZ := Lib.hid (show BB ≤ Wb.heap.size from Nat.le_trans HBB.out.2.2.2.2.2.2 (Nat.succ_le_of_lt (row_lt Nb.out)))
      clear hw4 hWc hWb hG bb
      refine g_region (fun _ => True) 8 rfl (by kernel_rfl) ?_
      rw [HD4.out]
      refine g_take 0 rfl (some 26) rfl (by kernel_rfl) (by kernel_rfl) (by kernel_rfl) (fun _ _ _ h => h) rfl (fun w' hw' => run_fld87_0 (x := .tmp 9) (d := N) rfl rfl w') trivial ?_
      simp only [Act.put, List.setIfInBounds_toArray, List.set_cons_succ, List.set_cons_zero]
      refine g_take 2 rfl (some 28) rfl (by kernel_rfl) (by kernel_rfl) (by kernel_rfl) (fun _ _ _ h => h) rfl (fun w' hw' => run_move_is (.tmp 6) (numF Fb) rfl rfl w') trivial ?_
      simp only [Act.put, List.setIfInBounds_toArray, List.set_cons_succ, List.set_cons_zero]
      refine g_two 1 3 (by kernel_rfl) ?_ ?_
      refine g_val rfl (some 27) rfl rfl (run_load_slice (t := 33) Tryz.underlying33 (x := .tmp 26) (a := ⟨N, 0, none⟩) (v := v) rfl rfl (cell_of_row _ N 0 _ 87 (0, 0) N4.out)) trivial ?_
      simp only [Act.put, List.setIfInBounds_toArray, List.set_cons_succ, List.set_cons_zero]
      refine g_one 3 (by kernel_rfl) ?_
      refine g_call rfl (some 29) rfl rfl (run_callv1 (x := .tmp 28) (y := .const (.int .i64 4)) rfl rfl Tryz.call118 (u := .int .i64 ((4 : Nat) : Int)) rfl (args := #[.int .i64 ((4 : Nat) : Int), pD Fb]) rfl _) CALL.out ?_
      rintro e w5 ⟨rfl, rfl⟩
      refine ⟨_, rfl, trivial, ?_⟩
      simp only [Act.put, List.setIfInBounds_toArray, List.set_cons_succ, List.set_cons_zero]
      refine g_one 4 (by kernel_rfl) ?_
      refine g_val rfl (some 30) rfl rfl (RB.out _ _ rfl rfl) trivial ?_
      simp only [Act.put, List.setIfInBounds_toArray, List.set_cons_succ, List.set_cons_zero]
      rotate_left
      refine g_call rfl (some 29) rfl rfl (run_callv1 (x := .tmp 28) (y := .const (.int .i64 4)) rfl rfl Tryz.call118 (u := .int .i64 ((4 : Nat) : Int)) rfl (args := #[.int .i64 ((4 : Nat) : Int), pD Fb]) rfl _) CALL.out ?_
      rintro e w5 ⟨rfl, rfl⟩
      refine ⟨_, rfl, trivial, ?_⟩
      simp only [Act.put, List.setIfInBounds_toArray, List.set_cons_succ, List.set_cons_zero]
      refine g_two 1 4 (by kernel_rfl) ?_ ?_
      refine g_val rfl (some 27) rfl rfl (run_load_slice (t := 33) Tryz.underlying33 (x := .tmp 26) (a := ⟨N, 0, none⟩) (v := v) rfl rfl (cell_of_row _ N 0 _ 87 (0, 0) Nc.out)) trivial ?_
      simp only [Act.put, List.setIfInBounds_toArray, List.set_cons_succ, List.set_cons_zero]
      refine g_one 4 (by kernel_rfl) ?_
      refine g_val rfl (some 30) rfl rfl (RB.out _ _ rfl rfl) trivial ?_
      simp only [Act.put, List.setIfInBounds_toArray, List.set_cons_succ, List.set_cons_zero]
      rotate_left
      refine g_val rfl (some 30) rfl rfl (RB.out _ _ rfl rfl) trivial ?_
      simp only [Act.put, List.setIfInBounds_toArray, List.set_cons_succ, List.set_cons_zero]
      refine g_one 1 (by kernel_rfl) ?_
      refine g_val rfl (some 27) rfl rfl (run_load_slice (t := 33) Tryz.underlying33 (x := .tmp 26) (a := ⟨N, 0, none⟩) (v := v) rfl rfl (cell_of_row _ N 0 _ 87 (0, 0) Nb.out)) trivial ?_
      simp only [Act.put, List.setIfInBounds_toArray, List.set_cons_succ, List.set_cons_zero]
      all_goals
        refine g_one 5 (by kernel_rfl) ?_
        refine g_append rfl (some 31) rfl rfl (.tmp 27) (.tmp 30) _ rfl BB 3 i3 _ 1 8 Tryz.underlying33 hi3 hz3 hs3 hb3 rfl (by omega) v k (ints (n.keys.take k)) rfl Ob_.out _ (some ⟨G, 0, none⟩) 1 1 [.int .i64 (x : Int)] rfl (reads_news X5.out rfl) (by simp [Value.oneCell']) (by unfold maxLen; omega) (by omega) BSZ.out ?_
        intro v' w6 hown6 hgr6 hat6
        have P6 := Lib.hid (Pb.out.grown Ob_.out ⟨HBB.out.1, HBB.out.2.1, HBB.out.2.2.1, HBB.out.2.2.2.1, HBB.out.2.2.2.2.1⟩ hgr6)
        have N6 := Lib.hid (node_grown Nb.out Ob_.out HBB.out.2.2.2.2.2.1 hgr6)
        have O6 := Lib.hid (show w6.ownsRow BB 3 1 v' (k + 1) (ints (n.keys.take (k + 1))) by rw [NX.out]; exact hown6)
        refine ⟨trivial, ?_⟩
        simp only [Act.put, List.setIfInBounds_toArray, List.set_cons_succ, List.set_cons_zero]
        refine g_take 6 rfl (some 32) rfl (by kernel_rfl) (by kernel_rfl) (by kernel_rfl) (fun _ _ _ h => h) rfl (fun w' hw' => run_fld87_0 (x := .tmp 9) (d := N) rfl rfl w') trivial ?_
        simp only [Act.put, List.setIfInBounds_toArray, List.set_cons_succ, List.set_cons_zero]
        obtain ⟨A', c', rfl⟩ := own_slice O6.out
        obtain ⟨W7, hW7⟩ : ∃ u, u = w6.setCell ⟨N, 0, none⟩ (.slice A' (k + 1) c') := ⟨_, rfl⟩
        have P7 := Lib.hid (show Part w W7 Db Ob Fb R rest' by rw [hW7]; exact P6.out.setNode N6.out HNR.out.1 HNR.out.2 _)
        have N7 := Lib.hid (show W7.heap[N]? = some (.cells #[(.slice A' (k + 1) c'), nilS, nilS] 87 (0, 0)) by rw [hW7, heap_setCell_row N6.out]; rfl)
        have O7 := Lib.hid (show W7.ownsRow BB 3 1 (.slice A' (k + 1) c') (k + 1) (ints (n.keys.take (k + 1))) by rw [hW7]; exact own_setBoxJ O6.out HBB.out.2.2.2.2.2.1)
        have HW7 := Lib.hid hW7.symm
        clear hW7 hown6 hgr6
        refine g_one 7 (by kernel_rfl) ?_
        refine g_skp (w' := W7) rfl rfl rfl (by rw [← HW7.out]; exact run_store_slc size33 (x := .tmp 32) (y := .tmp 31) (d := N) (j := 0) rfl rfl rfl N6.out (by simp)) trivial ?_
        refine g_done (by kernel_rfl) ?_
        go_wp2_with fail
        go_roundw
        case rel => exact ⟨k + 1, _, by go_num, HLT.out, by rw [← HRS.out]; exact P7.out, N7.out, O7.out⟩
        case measure => have := HLT.out; simp [RowKit.intOf]; omega
    · have hkl : k = n.keys.length := by omega
      subst hkl
      obtain ⟨vK, hvK⟩ : ∃ u, u = v := ⟨_, rfl⟩
      subst hvK
      rw [List.take_length] at OO
      rw [List.drop_length] at hp
      have PP := Lib.hid (show Part w wr Db Ob Fb R (n.vals.flatten ++ kidB n.kids) by simpa [keyB] using hp)
      clear hp
      have HM := Lib.hid (show wrap64 ((n.keys.length : Int) * (1 - (nkind n : Int))) = (n.vals.length : Int) by
        rcases HR.out.shape with ⟨e, h1, h2⟩ | ⟨e, h1, h2, h3, h4⟩
        · have : nkind n = 0 := by unfold nkind; rw [e]; rfl
          rw [this, h1]; simp [wrap64]; omega
        · have : nkind n = 1 := by unfold nkind; rw [if_neg (by omega)]
          rw [this, e]; simp [wrap64])
      have BEGIN := Lib.hid (show (∃ (k : Nat) (vV : Value), (Value.int .i64 0) = .int .i64 (k : Int) ∧ k ≤ n.vals.length ∧ Part w wr Db Ob Fb R ((n.vals.drop k).flatten ++ kidB n.kids) ∧ wr.heap[N]? = some (.cells #[vK, vV, nilS] 87 (0, 0)) ∧ wr.ownsRow BB 3 1 vK n.keys.length (ints n.keys) ∧ wr.ownsRow BB 9 1 vV k (strs (n.vals.take k))) from
        ⟨0, nilS, rfl, by omega, by rw [List.drop_zero]; exact PP.out, NN.out, OO.out, World.ownsRow_nil _ _ _ _⟩)
      go_wp2_with fail
      rw [HM.out]
      go_loopw [38] (fun i' wr => ∃ (k : Nat) (vV : Value), i' = .int .i64 (k : Int) ∧ k ≤ n.vals.length ∧ Part w wr Db Ob Fb R ((n.vals.drop k).flatten ++ kidB n.kids) ∧ wr.heap[N]? = some (.cells #[vK, vV, nilS] 87 (0, 0)) ∧ wr.ownsRow BB 3 1 vK n.keys.length (ints n.keys) ∧ wr.ownsRow BB 9 1 vV k (strs (n.vals.take k))) (fun i' _ => n.vals.length - (RowKit.intOf i').toNat)
      case atStart => exact BEGIN.out
      case round =>
        clear BEGIN NN OO PP
        obtain ⟨k, v, rfl, hk, hp, hn, he, ho⟩ := hrel
        have NN := Lib.hid hn
        have OO := Lib.hid ho
        have EK := Lib.hid he
        clear hn ho he
        by_cases hlt : k < n.vals.length
        · obtain ⟨x, hx⟩ : ∃ x, x = n.vals[k] := ⟨_, rfl⟩
          obtain ⟨rest, hrest⟩ : ∃ r, r = (n.vals.drop k).flatten ++ kidB n.kids := ⟨_, rfl⟩
          obtain ⟨rest', hrest'⟩ : ∃ r, r = (n.vals.drop (k + 1)).flatten ++ kidB n.kids := ⟨_, rfl⟩
          have hx12 : x.length = 12 := SZ.out.vals x (by rw [hx]; exact List.getElem_mem _)
          have hsp : rest = x ++ rest' := by
            rw [hrest, hrest', List.drop_eq_getElem_cons hlt, hx, List.flatten_cons, List.append_assoc]
          have HX := Lib.hid (show rest.take 12 = x ∧ rest.drop 12 = rest' by rw [hsp]; exact ⟨List.take_left' hx12, List.drop_left' hx12⟩)
          have HRL := Lib.hid (show rest.length ≤ 1000 ∧ 12 ≤ rest.length by
            refine ⟨?_, by rw [hsp, List.length_append]; omega⟩
            rw [hrest, List.length_append, kidB_length, vals_length (fun v hv => SZ.out.vals v (List.mem_of_mem_drop hv)), List.length_drop]; omega)
          rw [← hrest] at hp
          have PP := Lib.hid hp
          have NX := Lib.hid (show strs (n.vals.take (k + 1)) = strs (n.vals.take k) ++ [.string (strB x)] by
            rw [List.take_add_one, List.getElem?_eq_getElem hlt, strs_append, hx]; rfl)
          have HLT := Lib.hid hlt
          have HRS := Lib.hid hrest'
          clear hrest hrest' hsp hp hx hx12
          go_upto_region 14 with fail
          obtain ⟨w4, hw4⟩ : ∃ u, u = wr.drew := ⟨_, rfl⟩
          have HD4 := Lib.hid hw4.symm
          have P4 := Lib.hid (show Part w w4 Db Ob Fb R rest by rw [hw4]; exact PP.out.below (Below.refl _ _).drew)
          have N4 := Lib.hid (show w4.heap[N]? = some (.cells #[vK, v, nilS] 87 (0, 0)) by rw [hw4]; exact NN.out)
          have O4 := Lib.hid (show w4.ownsRow BB 9 1 v k (strs (n.vals.take k)) by rw [hw4]; exact OO.out)
          have E4K := Lib.hid (show w4.ownsRow BB 3 1 vK n.keys.length (ints n.keys) by rw [hw4]; exact EK.out)
          have CALL := Lib.hid (take_any w4 12 Db Ob rest HRL.out.1 HRL.out.2 P4.out.data)
          rw [HX.out.1, HX.out.2] at CALL
          obtain ⟨Wc, hWc⟩ : ∃ u, u = w4.setCell ⟨Db, 0, none⟩ (.string (strB rest')) := ⟨_, rfl⟩
          rw [← hWc] at CALL
          have Pc := Lib.hid (show Part w Wc Db Ob Fb R rest' by rw [hWc]; exact P4.out.took rest')
          have Nc := Lib.hid (show Wc.heap[N]? = some (.cells #[vK, v, nilS] 87 (0, 0)) by rw [hWc]; exact (Below.heap_setCell _ _ _ _ (cells_ne N4.out P4.out.data (by decide))).trans N4.out)
          have Oc := Lib.hid (show Wc.ownsRow BB 9 1 v k (strs (n.vals.take k)) by rw [hWc]; exact own_setBox O4.out HBB.out.2.1)
          have EcK := Lib.hid (show Wc.ownsRow BB 3 1 vK n.keys.length (ints n.keys) by rw [hWc]; exact own_setBox E4K.out HBB.out.2.1)
          obtain ⟨Wb, hWb⟩ : ∃ u, u = Wc.alloc (.cells #[.string (strB x)] 9) := ⟨_, rfl⟩
          obtain ⟨G, hG⟩ : ∃ u, u = Wc.heap.size := ⟨_, rfl⟩
          have bb := (Below.refl Wc.heap.size Wc).alloc (Nat.le_refl _) (.cells #[.string (strB x)] 9)
          rw [← hWb] at bb
          have Pb := Lib.hid (Pc.out.below bb)
          have Nb := Lib.hid ((bb.block N (row_lt Nc.out)).trans Nc.out)
          have Ob_ := Lib.hid (show Wb.ownsRow BB 9 1 v k (strs (n.vals.take k)) by rw [hWb]; exact own_alloc Oc.out _)
          have EbK := Lib.hid (show Wb.ownsRow BB 3 1 vK n.keys.length (ints n.keys) by rw [hWb]; exact own_alloc EcK.out _)
          have X5 := Lib.hid (show Wb.heap[G]? = some (.cells #[.string (strB x)] 9 (0, 0)) by rw [hWb, hG]; exact heap_alloc_new _ _)
          have RB := Lib.hid (fun (ρ : Operand → Value) (o : Oper) (ho : o.op = .buildSlice 85 1 #[(0, .tmp 43)]) (hx : ρ (.tmp 43) = .string (strB x)) => by
            have h := run_bs85 (ρ := ρ) (o := o) ho hx Wc
            rw [← hWb, ← hG] at h
            exact h)
          have BSZ := Lib.hid (show BB ≤ Wb.heap.size from Nat.le_trans HBB.out.2.2.2.2.2.2 (Nat.succ_le_of_lt (row_lt Nb.out)))
          clear hw4 hWc hWb hG bb
          refine g_region (fun w' => w'.heap[Fb]? = some (.cells #[takeF Db Ob] 198 (0, 0))) 8 rfl (by kernel_rfl) ?_
          rw [HD4.out]
          refine g_take 0 rfl (some 40) rfl (by kernel_rfl) (by kernel_rfl) (by kernel_rfl) (fun _ _ _ h => h) rfl (fun w' hw' => run_fld87_1 (x := .tmp 9) (d := N) rfl rfl w') P4.out.fn ?_
          simp only [Act.put, List.setIfInBounds_toArray, List.set_cons_succ, List.set_cons_zero]
          refine g_take 2 rfl (some 42) rfl (by kernel_rfl) (by kernel_rfl) (by kernel_rfl) (fun _ _ _ h => h) rfl (fun w' hw' => run_load_fn (x := .tmp 5) (b := Fb) rfl rfl hw') P4.out.fn ?_
          simp only [Act.put, List.setIfInBounds_toArray, List.set_cons_succ, List.set_cons_zero]
          refine g_two 1 3 (by kernel_rfl) ?_ ?_
          refine g_val rfl (some 41) rfl rfl (run_load_slice (t := 85) Tryz.underlying85 (x := .tmp 40) (a := ⟨N, 1, none⟩) (v := v) rfl rfl (cell_of_row _ N 1 _ 87 (0, 0) N4.out)) P4.out.fn ?_
          simp only [Act.put, List.setIfInBounds_toArray, List.set_cons_succ, List.set_cons_zero]
          refine g_one 3 (by kernel_rfl) ?_
          refine g_call rfl (some 43) rfl rfl (run_callv1 (x := .tmp 42) (y := .const (.int .i64 12)) rfl rfl Tryz.call117 (u := .int .i64 ((12 : Nat) : Int)) rfl (args := #[.int .i64 ((12 : Nat) : Int), pD Db, pD Ob]) rfl _) CALL.out ?_
          rintro e w5 ⟨rfl, rfl⟩
          refine ⟨_, rfl, Pc.out.fn, ?_⟩
          simp only [Act.put, List.setIfInBounds_toArray, List.set_cons_succ, List.set_cons_zero]
          refine g_one 4 (by kernel_rfl) ?_
          refine g_val rfl (some 44) rfl rfl (RB.out _ _ rfl rfl) Pb.out.fn ?_
          simp only [Act.put, List.setIfInBounds_toArray, List.set_cons_succ, List.set_cons_zero]
          rotate_left
          refine g_call rfl (some 43) rfl rfl (run_callv1 (x := .tmp 42) (y := .const (.int .i64 12)) rfl rfl Tryz.call117 (u := .int .i64 ((12 : Nat) : Int)) rfl (args := #[.int .i64 ((12 : Nat) : Int), pD Db, pD Ob]) rfl _) CALL.out ?_
          rintro e w5 ⟨rfl, rfl⟩
          refine ⟨_, rfl, Pc.out.fn, ?_⟩
          simp only [Act.put, List.setIfInBounds_toArray, List.set_cons_succ, List.set_cons_zero]
          refine g_two 1 4 (by kernel_rfl) ?_ ?_
          refine g_val rfl (some 41) rfl rfl (run_load_slice (t := 85) Tryz.underlying85 (x := .tmp 40) (a := ⟨N, 1, none⟩) (v := v) rfl rfl (cell_of_row _ N 1 _ 87 (0, 0) Nc.out)) Pc.out.fn ?_
          simp only [Act.put, List.setIfInBounds_toArray, List.set_cons_succ, List.set_cons_zero]
          refine g_one 4 (by kernel_rfl) ?_
          refine g_val rfl (some 44) rfl rfl (RB.out _ _ rfl rfl) Pb.out.fn ?_
          simp only [Act.put, List.setIfInBounds_toArray, List.set_cons_succ, List.set_cons_zero]
          rotate_left
          refine g_val rfl (some 44) rfl rfl (RB.out _ _ rfl rfl) Pb.out.fn ?_
          simp only [Act.put, List.setIfInBounds_toArray, List.set_cons_succ, List.set_cons_zero]
          refine g_one 1 (by kernel_rfl) ?_
          refine g_val rfl (some 41) rfl rfl (run_load_slice (t := 85) Tryz.underlying85 (x := .tmp 40) (a := ⟨N, 1, none⟩) (v := v) rfl rfl (cell_of_row _ N 1 _ 87 (0, 0) Nb.out)) Pb.out.fn ?_
          simp only [Act.put, List.setIfInBounds_toArray, List.set_cons_succ, List.set_cons_zero]
          all_goals
            refine g_one 5 (by kernel_rfl) ?_
            refine g_append rfl (some 45) rfl rfl (.tmp 41) (.tmp 44) _ rfl BB 9 i9 _ 1 16 Tryz.underlying85 hi9 hz9 hs9 hb9 rfl (by omega) v k (strs (n.vals.take k)) rfl Ob_.out _ (some ⟨G, 0, none⟩) 1 1 [.string (strB x)] rfl (reads_news X5.out rfl) (by simp [Value.oneCell']) (by unfold maxLen; omega) (by omega) BSZ.out ?_
            intro v' w6 hown6 hgr6 hat6
            have P6 := Lib.hid (Pb.out.grown Ob_.out ⟨HBB.out.1, HBB.out.2.1, HBB.out.2.2.1, HBB.out.2.2.2.1, HBB.out.2.2.2.2.1⟩ hgr6)
            have N6 := Lib.hid (node_grown Nb.out Ob_.out HBB.out.2.2.2.2.2.1 hgr6)
            have O6 := Lib.hid (show w6.ownsRow BB 9 1 v' (k + 1) (strs (n.vals.take (k + 1))) by rw [NX.out]; exact hown6)
            have E6K := Lib.hid (own_row EbK.out (fun q hq => hgr6.block q (own_lt EbK.out hq).1 (fun e => own_far EbK.out Ob_.out (by decide) hq e.symm)))
            refine ⟨P6.out.fn, ?_⟩
            simp only [Act.put, List.setIfInBounds_toArray, List.set_cons_succ, List.set_cons_zero]
            refine g_take 6 rfl (some 46) rfl (by kernel_rfl) (by kernel_rfl) (by kernel_rfl) (fun _ _ _ h => h) rfl (fun w' hw' => run_fld87_1 (x := .tmp 9) (d := N) rfl rfl w') P6.out.fn ?_
            simp only [Act.put, List.setIfInBounds_toArray, List.set_cons_succ, List.set_cons_zero]
            obtain ⟨A', c', rfl⟩ := own_slice O6.out
            obtain ⟨W7, hW7⟩ : ∃ u, u = w6.setCell ⟨N, 1, none⟩ (.slice A' (k + 1) c') := ⟨_, rfl⟩
            have P7 := Lib.hid (show Part w W7 Db Ob Fb R rest' by rw [hW7]; exact P6.out.setNode N6.out HNR.out.1 HNR.out.2 _)
            have N7 := Lib.hid (show W7.heap[N]? = some (.cells #[vK, (.slice A' (k + 1) c'), nilS] 87 (0, 0)) by rw [hW7, heap_setCell_row N6.out]; rfl)
            have O7 := Lib.hid (show W7.ownsRow BB 9 1 (.slice A' (k + 1) c') (k + 1) (strs (n.vals.take (k + 1))) by rw [hW7]; exact own_setBoxJ O6.out HBB.out.2.2.2.2.2.1)
            have E7K := Lib.hid (show W7.ownsRow BB 3 1 vK n.keys.length (ints n.keys) by rw [hW7]; exact own_setBoxJ E6K.out HBB.out.2.2.2.2.2.1)
            have HW7 := Lib.hid hW7.symm
            clear hW7 hown6 hgr6
            refine g_one 7 (by kernel_rfl) ?_
            refine g_skp (w' := W7) rfl rfl rfl (by rw [← HW7.out]; exact run_store_slc size85 (x := .tmp 46) (y := .tmp 45) (d := N) (j := 1) rfl rfl rfl N6.out (by simp)) P7.out.fn ?_
            refine g_done (by kernel_rfl) ?_
            go_wp2_with fail
            go_roundw
            case rel => exact ⟨k + 1, _, by go_num, HLT.out, by rw [← HRS.out]; exact P7.out, N7.out, E7K.out, O7.out⟩
            case measure => have := HLT.out; simp [RowKit.intOf]; omega
        · have hkl : k = n.vals.length := by omega
          subst hkl
          obtain ⟨vV, hvV⟩ : ∃ u, u = v := ⟨_, rfl⟩
          subst hvV
          rw [List.take_length] at OO
          rw [List.drop_length] at hp
          have PP := Lib.hid (show Part w wr Db Ob Fb R (kidB n.kids) by simpa using hp)
          clear hp
          have hkd : ((n.keys.length : Int) + 1) * (nkind n : Int) = (n.kids.length : Int) := by
            rcases HR.out.shape with ⟨e, h1, h2⟩ | ⟨e, h1, h2, h3, h4⟩
            · have : nkind n = 0 := by unfold nkind; rw [e]; rfl
              rw [this, e]; simp
            · have : nkind n = 1 := by unfold nkind; rw [if_neg (by omega)]
              rw [this, h2]; simp
          have HM := Lib.hid (show wrap64 (((n.keys.length : Int) + 1) * (nkind n : Int)) = (n.kids.length : Int) by rw [hkd]; unfold wrap64; omega)
          have HM' := Lib.hid (show wrap64 (wrap64 ((n.keys.length : Int) + 1) * (nkind n : Int)) = (n.kids.length : Int) by
            rw [show wrap64 ((n.keys.length : Int) + 1) = (n.keys.length : Int) + 1 by unfold wrap64; omega, hkd]; unfold wrap64; omega)
          have BEGIN := Lib.hid (show (∃ (k : Nat) (vC : Value), (Value.int .i64 0) = .int .i64 (k : Int) ∧ k ≤ n.kids.length ∧ Part w wr Db Ob Fb R (kidB (n.kids.drop k)) ∧ wr.heap[N]? = some (.cells #[vK, vV, vC] 87 (0, 0)) ∧ wr.ownsRow BB 3 1 vK n.keys.length (ints n.keys) ∧ wr.ownsRow BB 9 1 vV n.vals.length (strs n.vals) ∧ wr.ownsRow BB 3 1 vC k (ints (n.kids.take k)) ∧ (∀ q, vK.ownBlock = some q → vC.ownBlock ≠ some q)) from
            ⟨0, nilS, rfl, by omega, by rw [List.drop_zero]; exact PP.out, NN.out, EK.out, OO.out, World.ownsRow_nil _ _ _ _, fun _ _ h => by cases h⟩)
          clear hkd
          go_wp2_with fail
          first | rw [HM.out] | rw [HM'.out]
          go_loopw [52] (fun i' wr => ∃ (k : Nat) (vC : Value), i' = .int .i64 (k : Int) ∧ k ≤ n.kids.length ∧ Part w wr Db Ob Fb R (kidB (n.kids.drop k)) ∧ wr.heap[N]? = some (.cells #[vK, vV, vC] 87 (0, 0)) ∧ wr.ownsRow BB 3 1 vK n.keys.length (ints n.keys) ∧ wr.ownsRow BB 9 1 vV n.vals.length (strs n.vals) ∧ wr.ownsRow BB 3 1 vC k (ints (n.kids.take k)) ∧ (∀ q, vK.ownBlock = some q → vC.ownBlock ≠ some q)) (fun i' _ => n.kids.length - (RowKit.intOf i').toNat)
          case atStart => exact BEGIN.out
          case round =>
            clear BEGIN NN OO PP EK
            obtain ⟨k, v, rfl, hk, hp, hn, he, he2, ho, hdj⟩ := hrel
            have NN := Lib.hid hn
            have OO := Lib.hid ho
            have EK := Lib.hid he
            have EV := Lib.hid he2
            have DJ := Lib.hid hdj
            clear hn ho he he2 hdj
            by_cases hlt : k < n.kids.length
            · obtain ⟨x, hx⟩ : ∃ x, x = n.kids[k] := ⟨_, rfl⟩
              obtain ⟨rest, hrest⟩ : ∃ r, r = kidB (n.kids.drop k) := ⟨_, rfl⟩
              obtain ⟨rest', hrest'⟩ : ∃ r, r = kidB (n.kids.drop (k + 1)) := ⟨_, rfl⟩
              have hsp : rest = be 1 x ++ rest' := by
                rw [hrest, hrest', List.drop_eq_getElem_cons hlt, hx]
                unfold kidB
                rw [List.flatMap_cons]
              have HX := Lib.hid (show unbe (rest.take 1) = x ∧ rest.drop 1 = rest' by rw [hsp]; exact rest_take (by have := SZ.out.kid x (by rw [hx]; exact List.getElem_mem _); omega))
              have HRL := Lib.hid (show rest.length ≤ 1000 ∧ 1 ≤ rest.length by
                refine ⟨?_, by rw [hsp, List.length_append, be_length]; omega⟩
                rw [hrest, kidB_length, List.length_drop]; omega)
              rw [← hrest] at hp
              have PP := Lib.hid hp
              have NX := Lib.hid (show ints (n.kids.take (k + 1)) = ints (n.kids.take k) ++ [.int .i64 (x : Int)] by
                rw [List.take_add_one, List.getElem?_eq_getElem hlt, ints_append, hx]; rfl)
              have HLT := Lib.hid hlt
              have HRS := Lib.hid hrest'
              clear hrest hrest' hsp hp hx
              go_upto_region 18 with fail
              obtain ⟨w4, hw4⟩ : ∃ u, u = wr.drew := ⟨_, rfl⟩
              have HD4 := Lib.hid hw4.symm
              have P4 := Lib.hid (show Part w w4 Db Ob Fb R rest by rw [hw4]; exact PP.out.below (Below.refl _ _).drew)
              have N4 := Lib.hid (show w4.heap[N]? = some (.cells #[vK, vV, v] 87 (0, 0)) by rw [hw4]; exact NN.out)
              have O4 := Lib.hid (show w4.ownsRow BB 3 1 v k (ints (n.kids.take k)) by rw [hw4]; exact OO.out)
              have E4K := Lib.hid (show w4.ownsRow BB 3 1 vK n.keys.length (ints n.keys) by rw [hw4]; exact EK.out)
              have E4V := Lib.hid (show w4.ownsRow BB 9 1 vV n.vals.length (strs n.vals) by rw [hw4]; exact EV.out)
              have CALL := Lib.hid (number_any w4 1 Db Ob Fb rest HRL.out.1 (by omega) (by omega) HRL.out.2 P4.out.data P4.out.fn)
              rw [HX.out.1, HX.out.2] at CALL
              obtain ⟨Wc, hWc⟩ : ∃ u, u = w4.setCell ⟨Db, 0, none⟩ (.string (strB rest')) := ⟨_, rfl⟩
              rw [← hWc] at CALL
              have Pc := Lib.hid (show Part w Wc Db Ob Fb R rest' by rw [hWc]; exact P4.out.took rest')
              have Nc := Lib.hid (show Wc.heap[N]? = some (.cells #[vK, vV, v] 87 (0, 0)) by rw [hWc]; exact (Below.heap_setCell _ _ _ _ (cells_ne N4.out P4.out.data (by decide))).trans N4.out)
              have Oc := Lib.hid (show Wc.ownsRow BB 3 1 v k (ints (n.kids.take k)) by rw [hWc]; exact own_setBox O4.out HBB.out.2.1)
              have EcK := Lib.hid (show Wc.ownsRow BB 3 1 vK n.keys.length (ints n.keys) by rw [hWc]; exact own_setBox E4K.out HBB.out.2.1)
              have EcV := Lib.hid (show Wc.ownsRow BB 9 1 vV n.vals.length (strs n.vals) by rw [hWc]; exact own_setBox E4V.out HBB.out.2.1)
              obtain ⟨Wb, hWb⟩ : ∃ u, u = Wc.alloc (.cells #[.int .i64 (x : Int)] 3) := ⟨_, rfl⟩
              obtain ⟨G, hG⟩ : ∃ u, u = Wc.heap.size := ⟨_, rfl⟩
              have bb := (Below.refl Wc.heap.size Wc).alloc (Nat.le_refl _) (.cells #[.int .i64 (x : Int)] 3)
              rw [← hWb] at bb
              have Pb := Lib.hid (Pc.out.below bb)
              have Nb := Lib.hid ((bb.block N (row_lt Nc.out)).trans Nc.out)
              have Ob_ := Lib.hid (show Wb.ownsRow BB 3 1 v k (ints (n.kids.take k)) by rw [hWb]; exact own_alloc Oc.out _)
              have EbK := Lib.hid (show Wb.ownsRow BB 3 1 vK n.keys.length (ints n.keys) by rw [hWb]; exact own_alloc EcK.out _)
              have EbV := Lib.hid (show Wb.ownsRow BB 9 1 vV n.vals.length (strs n.vals) by rw [hWb]; exact own_alloc EcV.out _)
              have X5 := Lib.hid (show Wb.heap[G]? = some (.cells #[.int .i64 (x : Int)] 3 (0, 0)) by rw [hWb, hG]; exact heap_alloc_new _ _)
              have RB := Lib.hid (fun (ρ : Operand → Value) (o : Oper) (ho : o.op = .buildSlice 33 1 #[(0, .tmp 57)]) (hx : ρ (.tmp 57) = .int .i64 (x : Int)) => by
                have h := run_bs33 (ρ := ρ) (o := o) ho hx Wc
                rw [← hWb, ← hG] at h
                exact h)
              have BSZ := Lib.hid (show BB ≤ Wb.heap.size from Nat.le_trans HBB.out.2.2.2.2.2.2 (Nat.succ_le_of_lt (row_lt Nb.out)))
              clear hw4 hWc hWb hG bb
              refine g_region (fun _ => True) 8 rfl (by kernel_rfl) ?_
              rw [HD4.out]
              refine g_take 0 rfl (some 54) rfl (by kernel_rfl) (by kernel_rfl) (by kernel_rfl) (fun _ _ _ h => h) rfl (fun w' hw' => run_fld87_2 (x := .tmp 9) (d := N) rfl rfl w') trivial ?_
              simp only [Act.put, List.setIfInBounds_toArray, List.set_cons_succ, List.set_cons_zero]
              refine g_take 2 rfl (some 56) rfl (by kernel_rfl) (by kernel_rfl) (by kernel_rfl) (fun _ _ _ h => h) rfl (fun w' hw' => run_move_is (.tmp 6) (numF Fb) rfl rfl w') trivial ?_
              simp only [Act.put, List.setIfInBounds_toArray, List.set_cons_succ, List.set_cons_zero]
              refine g_two 1 3 (by kernel_rfl) ?_ ?_
              refine g_val rfl (some 55) rfl rfl (run_load_slice (t := 33) Tryz.underlying33 (x := .tmp 54) (a := ⟨N, 2, none⟩) (v := v) rfl rfl (cell_of_row _ N 2 _ 87 (0, 0) N4.out)) trivial ?_
              simp only [Act.put, List.setIfInBounds_toArray, List.set_cons_succ, List.set_cons_zero]
              refine g_one 3 (by kernel_rfl) ?_
              refine g_call rfl (some 57) rfl rfl (run_callv1 (x := .tmp 56) (y := .const (.int .i64 1)) rfl rfl Tryz.call118 (u := .int .i64 ((1 : Nat) : Int)) rfl (args := #[.int .i64 ((1 : Nat) : Int), pD Fb]) rfl _) CALL.out ?_
              rintro e w5 ⟨rfl, rfl⟩
              refine ⟨_, rfl, trivial, ?_⟩
              simp only [Act.put, List.setIfInBounds_toArray, List.set_cons_succ, List.set_cons_zero]
              refine g_one 4 (by kernel_rfl) ?_
              refine g_val rfl (some 58) rfl rfl (RB.out _ _ rfl rfl) trivial ?_
              simp only [Act.put, List.setIfInBounds_toArray, List.set_cons_succ, List.set_cons_zero]
              rotate_left
              refine g_call rfl (some 57) rfl rfl (run_callv1 (x := .tmp 56) (y := .const (.int .i64 1)) rfl rfl Tryz.call118 (u := .int .i64 ((1 : Nat) : Int)) rfl (args := #[.int .i64 ((1 : Nat) : Int), pD Fb]) rfl _) CALL.out ?_
              rintro e w5 ⟨rfl, rfl⟩
              refine ⟨_, rfl, trivial, ?_⟩
              simp only [Act.put, List.setIfInBounds_toArray, List.set_cons_succ, List.set_cons_zero]
              refine g_two 1 4 (by kernel_rfl) ?_ ?_
              refine g_val rfl (some 55) rfl rfl (run_load_slice (t := 33) Tryz.underlying33 (x := .tmp 54) (a := ⟨N, 2, none⟩) (v := v) rfl rfl (cell_of_row _ N 2 _ 87 (0, 0) Nc.out)) trivial ?_
              simp only [Act.put, List.setIfInBounds_toArray, List.set_cons_succ, List.set_cons_zero]
              refine g_one 4 (by kernel_rfl) ?_
              refine g_val rfl (some 58) rfl rfl (RB.out _ _ rfl rfl) trivial ?_
              simp only [Act.put, List.setIfInBounds_toArray, List.set_cons_succ, List.set_cons_zero]
              rotate_left
              refine g_val rfl (some 58) rfl rfl (RB.out _ _ rfl rfl) trivial ?_
              simp only [Act.put, List.setIfInBounds_toArray, List.set_cons_succ, List.set_cons_zero]
              refine g_one 1 (by kernel_rfl) ?_
              refine g_val rfl (some 55) rfl rfl (run_load_slice (t := 33) Tryz.underlying33 (x := .tmp 54) (a := ⟨N, 2, none⟩) (v := v) rfl rfl (cell_of_row _ N 2 _ 87 (0, 0) Nb.out)) trivial ?_
              simp only [Act.put, List.setIfInBounds_toArray, List.set_cons_succ, List.set_cons_zero]
              all_goals
                refine g_one 5 (by kernel_rfl) ?_
                refine g_append rfl (some 59) rfl rfl (.tmp 55) (.tmp 58) _ rfl BB 3 i3 _ 1 8 Tryz.underlying33 hi3 hz3 hs3 hb3 rfl (by omega) v k (ints (n.kids.take k)) rfl Ob_.out _ (some ⟨G, 0, none⟩) 1 1 [.int .i64 (x : Int)] rfl (reads_news X5.out rfl) (by simp [Value.oneCell']) (by unfold maxLen; omega) (by omega) BSZ.out ?_
                intro v' w6 hown6 hgr6 hat6
                have P6 := Lib.hid (Pb.out.grown Ob_.out ⟨HBB.out.1, HBB.out.2.1, HBB.out.2.2.1, HBB.out.2.2.2.1, HBB.out.2.2.2.2.1⟩ hgr6)
                have N6 := Lib.hid (node_grown Nb.out Ob_.out HBB.out.2.2.2.2.2.1 hgr6)
                have O6 := Lib.hid (show w6.ownsRow BB 3 1 v' (k + 1) (ints (n.kids.take (k + 1))) by rw [NX.out]; exact hown6)
                have E6K := Lib.hid (own_row EbK.out (fun q hq => hgr6.block q (own_lt EbK.out hq).1 (fun e => DJ.out q hq e.symm)))
                have E6V := Lib.hid (own_row EbV.out (fun q hq => hgr6.block q (own_lt EbV.out hq).1 (fun e => own_far EbV.out Ob_.out (by decide) hq e.symm)))
                refine ⟨trivial, ?_⟩
                simp only [Act.put, List.setIfInBounds_toArray, List.set_cons_succ, List.set_cons_zero]
                refine g_take 6 rfl (some 60) rfl (by kernel_rfl) (by kernel_rfl) (by kernel_rfl) (fun _ _ _ h => h) rfl (fun w' hw' => run_fld87_2 (x := .tmp 9) (d := N) rfl rfl w') trivial ?_
                simp only [Act.put, List.setIfInBounds_toArray, List.set_cons_succ, List.set_cons_zero]
                obtain ⟨A', c', rfl⟩ := own_slice O6.out
                obtain ⟨W7, hW7⟩ : ∃ u, u = w6.setCell ⟨N, 2, none⟩ (.slice A' (k + 1) c') := ⟨_, rfl⟩
                have P7 := Lib.hid (show Part w W7 Db Ob Fb R rest' by rw [hW7]; exact P6.out.setNode N6.out HNR.out.1 HNR.out.2 _)
                have N7 := Lib.hid (show W7.heap[N]? = some (.cells #[vK, vV, (.slice A' (k + 1) c')] 87 (0, 0)) by rw [hW7, heap_setCell_row N6.out]; rfl)
                have O7 := Lib.hid (show W7.ownsRow BB 3 1 (.slice A' (k + 1) c') (k + 1) (ints (n.kids.take (k + 1))) by rw [hW7]; exact own_setBoxJ O6.out HBB.out.2.2.2.2.2.1)
                have E7K := Lib.hid (show W7.ownsRow BB 3 1 vK n.keys.length (ints n.keys) by rw [hW7]; exact own_setBoxJ E6K.out HBB.out.2.2.2.2.2.1)
                have E7V := Lib.hid (show W7.ownsRow BB 9 1 vV n.vals.length (strs n.vals) by rw [hW7]; exact own_setBoxJ E6V.out HBB.out.2.2.2.2.2.1)
                have HW7 := Lib.hid hW7.symm
                have DJ7 := Lib.hid (show ∀ q, vK.ownBlock = some q → (Value.slice A' (k + 1) c').ownBlock ≠ some q from fun q hq => by
                  rcases hat6 with h | h
                  · rw [h]; exact DJ.out q hq
                  · rw [h]; intro e; injection e with e; have := (own_lt EbK.out hq).1; omega)
                clear hW7 hown6 hgr6
                refine g_one 7 (by kernel_rfl) ?_
                refine g_skp (w' := W7) rfl rfl rfl (by rw [← HW7.out]; exact run_store_slc size33 (x := .tmp 60) (y := .tmp 59) (d := N) (j := 2) rfl rfl rfl N6.out (by simp)) trivial ?_
                refine g_done (by kernel_rfl) ?_
                go_wp2_with fail
                go_roundw
                case rel => exact ⟨k + 1, _, by go_num, HLT.out, by rw [← HRS.out]; exact P7.out, N7.out, E7K.out, E7V.out, O7.out, DJ7.out⟩
                case measure => have := HLT.out; simp [RowKit.intOf]; omega
            · have hkl : k = n.kids.length := by omega
              subst hkl
              obtain ⟨vC, hvC⟩ : ∃ u, u = v := ⟨_, rfl⟩
              subst hvC
              rw [List.take_length] at OO
              rw [List.drop_length] at hp
              have DJF := DJ
              have PP := Lib.hid (show Part w wr Db Ob Fb R [] by simpa [kidB] using hp)
              clear hp
              go_upto_region 20 with fail
              obtain ⟨w4, hw4⟩ : ∃ u, u = wr.drew := ⟨_, rfl⟩
              have HD4 := Lib.hid hw4.symm
              have P4 := Lib.hid (show Part w w4 Db Ob Fb R [] by rw [hw4]; exact PP.out.below (Below.refl _ _).drew)
              have N4 := Lib.hid (show w4.heap[N]? = some (.cells #[vK, vV, vC] 87 (0, 0)) by rw [hw4]; exact NN.out)
              have O4 := Lib.hid (show w4.ownsRow BB 3 1 vC n.kids.length (ints n.kids) by rw [hw4]; exact OO.out)
              have EK4 := Lib.hid (show w4.ownsRow BB 3 1 vK n.keys.length (ints n.keys) by rw [hw4]; exact EK.out)
              have EV4 := Lib.hid (show w4.ownsRow BB 9 1 vV n.vals.length (strs n.vals) by rw [hw4]; exact EV.out)
              have CC := Lib.hid (And.intro N4.out (And.intro P4.out.ok P4.out.data))
              obtain ⟨W7, hW7⟩ : ∃ u, u = w4.setRow R #[vK, vV, vC] := ⟨_, rfl⟩
              have hoth : ∀ q, q ≠ R → W7.heap[q]? = w4.heap[q]? := fun q hq => by rw [hW7]; exact setRow_other _ _ _ _ hq
              have CC7 := Lib.hid (show W7.heap[N]? = some (.cells #[vK, vV, vC] 87 (0, 0)) ∧ W7.heap[Ob]? = some (.cells #[.bool true] 4 (0, 0)) ∧ W7.heap[Db]? = some (.cells #[.string (strB [])] 9 (0, 0)) from ⟨(hoth N HNR.out.1).trans N4.out, (hoth Ob (cells_ne P4.out.ok P4.out.res (by decide))).trans P4.out.ok, (hoth Db (cells_ne P4.out.data P4.out.res (by decide))).trans P4.out.data⟩)
              have R7 := Lib.hid (show W7.heap[R]? = some (.cells #[vK, vV, vC] 87 (0, 0)) by rw [hW7]; exact setRow_has P4.out.res)
              have own7 : ∀ {e m : Nat} {u : Value} {xs : List Value}, w4.ownsRow BB e 1 u m xs → W7.ownsRow w.heap.size e 1 u m xs := fun h => own_base (own_row h (fun q hq => hoth q (by have := (own_lt h hq).2; have := HBB.out; omega))) HBB.out.1
              have K7 := Lib.hid (own7 EK4.out)
              have V7 := Lib.hid (own7 EV4.out)
              have O7 := Lib.hid (own7 O4.out)
              have B7 := Lib.hid (show Below w.heap.size w W7 by rw [hW7]; exact below_setRow P4.out.low P4.out.ge.2.1 _)
              have HW7 := Lib.hid hW7.symm
              clear hw4 hW7 hoth own7
              refine g_region (fun w' => w'.heap[N]? = some (.cells #[vK, vV, vC] 87 (0, 0)) ∧ w'.heap[Ob]? = some (.cells #[.bool true] 4 (0, 0)) ∧ w'.heap[Db]? = some (.cells #[.string (strB [])] 9 (0, 0))) 8 rfl (by kernel_rfl) ?_
              rw [HD4.out]
              refine g_take 0 rfl (some 62) rfl (by kernel_rfl) (by kernel_rfl) (by kernel_rfl) (fun _ _ _ h => h) rfl (fun w' hw' => run_ld_node (x := .tmp 9) rfl rfl hw'.1) CC.out ?_
              simp only [Act.put, List.setIfInBounds_toArray, List.set_cons_succ, List.set_cons_zero]
              refine g_take 1 rfl (some 63) rfl (by kernel_rfl) (by kernel_rfl) (by kernel_rfl) (fun _ _ _ h => h) rfl (fun w' hw' => run_load_bool (x := .tmp 4) rfl Tryz.underlying4 rfl (cell_one hw'.2.1).1) CC.out ?_
              simp only [Act.put, List.setIfInBounds_toArray, List.set_cons_succ, List.set_cons_zero]
              refine g_take 2 rfl (some 64) rfl (by kernel_rfl) (by kernel_rfl) (by kernel_rfl) (fun _ _ _ h => h) rfl (fun w' hw' => run_move_is (.tmp 63) (.bool true) rfl rfl w') CC.out ?_
              simp only [Act.put, List.setIfInBounds_toArray, List.set_cons_succ, List.set_cons_zero]
              refine g_take 3 rfl (some 65) rfl (by kernel_rfl) (by kernel_rfl) (by kernel_rfl) (fun _ _ _ h => h) (want_is 2 64 true true true rfl rfl rfl rfl) (fun w' hw' => run_load_str (x := .tmp 1) rfl rfl (cell_one hw'.2.2).1) CC.out ?_
              simp only [Act.put, List.setIfInBounds_toArray, List.set_cons_succ, List.set_cons_zero]
              refine g_take 4 rfl (some 66) rfl (by kernel_rfl) (by kernel_rfl) (by kernel_rfl) (fun _ _ _ h => h) (want_is 2 64 true true true rfl rfl rfl rfl) (fun w' hw' => run_eql_empty (x := .tmp 65) rfl rfl rfl w') CC.out ?_
              simp only [Act.put, List.setIfInBounds_toArray, List.set_cons_succ, List.set_cons_zero]
              refine g_take 5 rfl (some 67) rfl (by kernel_rfl) (by kernel_rfl) (by kernel_rfl) (fun _ _ _ h => h) rfl (fun w' hw' => run_pick_is (c := .tmp 64) (a := .tmp 66) (b := .const (.bool false)) rfl (t := true) rfl (.bool true) rfl w') CC.out ?_
              simp only [Act.put, List.setIfInBounds_toArray, List.set_cons_succ, List.set_cons_zero]
              refine g_one 6 (by kernel_rfl) ?_
              refine g_skp (w' := W7) rfl rfl rfl (by rw [← HW7.out]; exact run_store_row87 (x := .tmp 2) (y := .tmp 62) rfl rfl rfl P4.out.res (by rcases own_slice EK4.out with ⟨_, _, rfl⟩; rcases own_slice EV4.out with ⟨_, _, rfl⟩; rcases own_slice O4.out with ⟨_, _, rfl⟩; simp [Value.oneCell'])) CC7.out ?_
              refine g_take 7 rfl (some 3) rfl (by kernel_rfl) (by kernel_rfl) (by kernel_rfl) (fun _ _ _ h => h) rfl (fun w' hw' => run_assign_is (.tmp 67) (.bool true) rfl rfl w') CC7.out ?_
              simp only [Act.put, List.setIfInBounds_toArray, List.set_cons_succ, List.set_cons_zero]
              refine g_done (by kernel_rfl) ?_
              go_wp2_with fail
              exact bodyPost_ret (results_node rfl _ _ R (.bool true) rfl R7.out rfl) rfl ⟨vK, vV, vC, rfl, K7.out, V7.out, O7.out, DJF.out, B7.out⟩
end Go.Proofs.YtnlolhlbpdmljaaGreatDoor
