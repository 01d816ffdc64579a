/-
  node.Seek, tree.child, tree.load, tree.store. tree.parted.
  Conditions: none.
-/
import Derived.Test.YtnlolhlbpdmljaaGreatDoorSlA
namespace Go.Proofs.YtnlolhlbpdmljaaGreatDoor
open Go.ChangeShapes Go.WideShapes Go.RowKit
set_option maxRecDepth 100000 in
set_option maxHeartbeats 2000000 in
theorem seek_any (w : World) (v : Value) (n : PN) (x : Nat) (h : NAt w v n) (hr : NRight n) : Calls Tryz.prog 55 #[v, .int .i64 (x : Int)] w fun e w' => e = .returned (.tuple #[.int .i64 (lessN n.keys x : Int), .bool (decide (x ∈ n.keys))]) ∧ Below w.heap.size w w' := by
  have HN := Lib.hid h
  have RIGHT := Lib.hid (show ∀ w', Below w.heap.size w w' → _ from fun w' hb => nright_any w' v n (HN.out.below hb) hr)
  obtain ⟨sK, sV, sC, rfl, h1, h2, h3⟩ := h
  have BIN := Lib.hid (show ∀ w', Below w.heap.size w w' → _ from fun w' hb => bin_any w' sK n.keys x (h1.below hb) hr.keys)
  obtain ⟨S, hS⟩ : ∃ S, S = w.heap.size := ⟨_, rfl⟩
  obtain ⟨W1, hW1⟩ : ∃ W, W = w.alloc (.cells #[sK, sV, sC] 87) := ⟨_, rfl⟩
  have S1 := Lib.hid (show W1.heap[S]? = some (.cells #[sK, sV, sC] 87 (0, 0)) by rw [hW1, hS]; exact heap_alloc_new _ _)
  have B1 := Lib.hid (show Below w.heap.size w W1 by rw [hW1]; exact (Below.refl _ _).alloc (Nat.le_refl _) _)
  have HS := Lib.hid hS
  have HW1 := Lib.hid hW1
  obtain ⟨A1, c1, e1⟩ := h1.shape
  subst e1
  clear h1 h2 h3 hS hW1 hr
  go_enter Tryz.func55, Tryz.ntmps55
  go_upto_region 1 with fail
  rw [← HW1.out, ← HS.out]
  refine wp_region_lit ?_
  refine l_is (.load 87 (.tmp 2)) rfl rfl (run_ld_node (x := .tmp 2) rfl rfl S1.out) ?_
  go_wp2_with fail
  refine (RIGHT.out _ B1.out).mono ?_
  rintro e w2 ⟨rfl, hb2⟩
  have B2 := Lib.hid (B1.out.trans (hb2.mono B1.out.size))
  have c0 : w2.cell? ⟨S, 0, none⟩ = some (.slice A1 (ints n.keys).length c1) := cell_of_row w2 S 0 _ 87 (0, 0) ((hb2.block S (row_lt S1.out)).trans S1.out)
  clear hb2
  go_wp2_with fail
  refine (BIN.out _ B2.out).mono ?_
  rintro e w3 ⟨rfl, hb3⟩
  have B3 := Lib.hid (B2.out.trans (hb3.mono B2.out.size))
  clear hb3
  go_wp2_with fail
  go_ret2
  exact ⟨rfl, B3.out⟩
def childN (l : List Nat) (x : Nat) : Nat := lessN l x + if x ∈ l then 1 else 0
set_option maxRecDepth 100000 in
set_option maxHeartbeats 2000000 in
theorem child_any (w : World) (v : Value) (n : PN) (x : Nat) (h : NAt w v n) (hr : KeysOk n.keys) : Calls Tryz.prog 59 #[v, .int .i64 (x : Int)] w fun e w' => e = .returned (.int .i64 (childN n.keys x : Int)) ∧ Below w.heap.size w w' := by
  obtain ⟨sK, sV, sC, rfl, h1, h2, h3⟩ := h
  have BIN := Lib.hid (show ∀ w', Below w.heap.size w w' → _ from fun w' hb => bin_any w' sK n.keys x (h1.below hb) hr)
  obtain ⟨S, hS⟩ : ∃ S, S = w.heap.size := ⟨_, rfl⟩
  obtain ⟨W1, hW1⟩ : ∃ W, W = w.alloc (.cells #[sK, sV, sC] 87) := ⟨_, rfl⟩
  have s1 : W1.heap[S]? = some (.cells #[sK, sV, sC] 87 (0, 0)) := by rw [hW1, hS]; exact heap_alloc_new _ _
  have B1 := Lib.hid (show Below w.heap.size w W1 by rw [hW1]; exact (Below.refl _ _).alloc (Nat.le_refl _) _)
  have HS := Lib.hid hS
  have HW1 := Lib.hid hW1
  obtain ⟨A1, c1, e1⟩ := h1.shape
  subst e1
  have c0 : W1.cell? ⟨S, 0, none⟩ = some (.slice A1 (ints n.keys).length c1) := cell_of_row W1 S 0 _ 87 (0, 0) s1
  have hle : lessN n.keys x ≤ 7 := Nat.le_trans List.countP_le_length hr.1
  clear h1 h2 h3 hS hW1 hr s1
  by_cases hx : x ∈ n.keys
  · have HC := Lib.hid (show ((lessN n.keys x : Nat) : Int) + 1 = (childN n.keys x : Int) by unfold childN; rw [if_pos hx]; simp)
    rw [decide_eq_true hx] at BIN
    clear hx
    go_enter Tryz.func59, Tryz.ntmps59
    go_upto_region 1 with fail
    rw [← HW1.out, ← HS.out]
    go_wp2_with fail
    refine (BIN.out _ B1.out).mono ?_
    rintro e w3 ⟨rfl, hb3⟩
    have B3 := Lib.hid (B1.out.trans (hb3.mono B1.out.size))
    clear hb3
    go_wp2_with fail
    go_ret
    refine ⟨?_, B3.out⟩
    rw [← HC.out]
    rfl
  · have HC := Lib.hid (show ((lessN n.keys x : Nat) : Int) = (childN n.keys x : Int) by unfold childN; rw [if_neg hx]; simp)
    rw [decide_eq_false hx] at BIN
    clear hx
    go_enter Tryz.func59, Tryz.ntmps59
    go_upto_region 1 with fail
    rw [← HW1.out, ← HS.out]
    go_wp2_with fail
    refine (BIN.out _ B1.out).mono ?_
    rintro e w3 ⟨rfl, hb3⟩
    have B3 := Lib.hid (B1.out.trans (hb3.mono B1.out.size))
    clear hb3
    go_wp2_with fail
    go_ret
    refine ⟨?_, B3.out⟩
    rw [← HC.out]
    rfl
set_option maxRecDepth 100000 in
set_option maxHeartbeats 2000000 in
theorem tload_any {w : World} {B P d : Nat} {V : Nat → B8} {m : Nat} {s : SupT} {Fr Go : List Nat} (h : PAt w B P d V m s Fr Go) (i depth : Nat) (n : PN) (hi : i < 240) (hd : depth ≤ 12) (hm : (mem s.2.2 i || mem Fr i) = true) (hV : V i = laidP 2 (nlay n)) (hr : NRight n) :
    Calls Tryz.prog 52 #[.pointer (some ⟨P, 0, none⟩), .int .i64 (i : Int), .int .i64 (depth : Int)] w fun e w' => ∃ vK vV vC, e = .returned (.tuple #[.agg #[vK, vV, vC], .nilIface]) ∧ NOwn w' w.heap.size vK vV vC n ∧ Below w.heap.size w w' := by
  obtain ⟨R, hR⟩ : ∃ R, R = w.heap.size := ⟨_, rfl⟩
  obtain ⟨W1, hW1⟩ : ∃ W, W = w.alloc (.cells #[nilS, nilS, nilS] 87) := ⟨_, rfl⟩
  have b1 : Below w.heap.size w W1 := by rw [hW1]; exact (Below.refl _ _).alloc (Nat.le_refl _) _
  have R1 := Lib.hid (show W1.heap[R]? = some (.cells #[nilS, nilS, nilS] 87 (0, 0)) by rw [hW1, hR]; exact heap_alloc_new _ _)
  have B1 := Lib.hid b1
  have HR := Lib.hid hR
  have HW1 := Lib.hid hW1
  have LD := Lib.hid (pload_any (h.below b1) i hi hm (nlay n) (by have := nlay_length hr; omega) hV)
  have RD := Lib.hid (fun w => nread_any w n hr)
  have hgt : ¬ (12 : Int) < (depth : Int) := by omega
  clear h hi hd hm hV hr hR hW1 b1
  go_enter Tryz.func52, Tryz.ntmps52
  go_upto_region 1 with fail
  rw [← HW1.out, ← HR.out]
  go_wp2_with fail
  refine LD.out.mono ?_
  rintro e w2 ⟨rfl, hb2⟩
  have R2 := Lib.hid ((hb2.block R (row_lt R1.out)).trans R1.out)
  have B2 := Lib.hid (B1.out.trans (hb2.mono B1.out.size))
  clear hb2
  go_wp2_with fail
  refine (RD.out _).mono ?_
  rintro e w3 ⟨vK, vV, vC, rfl, ho, hb3⟩
  have R3 := Lib.hid ((hb3.block R (row_lt R2.out)).trans R2.out)
  have B3 := Lib.hid (B2.out.trans (hb3.mono B2.out.size))
  have O3 := Lib.hid (ho.base B2.out.size)
  have ONE := Lib.hid (node_one ho)
  clear hb3 ho
  go_wp2_with (refine wpList_store_row rfl 87 (.tmp 6) (.tmp 27) rfl R #[vK, vV, vC] rfl rfl 87 #[nilS, nilS, nilS] R3.out size87 rfl ONE.out ?_)
  exact bodyPost_ret (results_node rfl _ _ R .nilIface rfl (setRow_has R3.out) rfl) rfl ⟨vK, vV, vC, rfl, O3.out.moved (fun k cs t hk ht => setRow_other _ _ _ _ (fun e => cells_ne hk R3.out (by rcases ht with rfl | rfl <;> decide) e)), below_setRow B3.out (by rw [HR.out]; exact Nat.le_refl _) _⟩
set_option maxRecDepth 100000 in
set_option maxHeartbeats 2000000 in
theorem tstore_any {w : World} {B P d : Nat} {V : Nat → B8} {m : Nat} {s : SupT} {Fr Go : List Nat} (h : PAt w B P d V m s Fr Go) (v : Value) (n : PN) (hn : NAt w v n) (hr : NRight n) (hm : m < 100000) (i : Nat) (hi : FreeAt (bothP s.2.2 Fr) i) :
    Calls Tryz.prog 27 #[.pointer (some ⟨P, 0, none⟩), v] w fun e w' => e = .returned (.tuple #[.int .i64 (i : Int), .nilIface]) ∧ PAt w' B P d (upd V i (laidP 2 (nlay n))) (m + 1) s (withP Fr (i : Int)) Go ∧ KT B isPg w w' := by
  have HN := Lib.hid hn
  have LAY := Lib.hid (show ∀ w', Below w.heap.size w w' → _ from fun w' hb => nlay_any w' v n (HN.out.below hb) hr)
  have NEW := Lib.hid (show ∀ w', Below w.heap.size w w' → _ from fun w' hb => pnew_any (h.below hb) (nlay n) (by have := nlay_length hr; omega) hm i hi)
  obtain ⟨sK, sV, sC, rfl, h1, h2, h3⟩ := hn
  obtain ⟨S, hS⟩ : ∃ S, S = w.heap.size := ⟨_, rfl⟩
  obtain ⟨W1, hW1⟩ : ∃ W, W = w.alloc (.cells #[sK, sV, sC] 87) := ⟨_, rfl⟩
  have S1 := Lib.hid (show W1.heap[S]? = some (.cells #[sK, sV, sC] 87 (0, 0)) by rw [hW1, hS]; exact heap_alloc_new _ _)
  have B1 := Lib.hid (show Below w.heap.size w W1 by rw [hW1]; exact (Below.refl _ _).alloc (Nat.le_refl _) _)
  have HS := Lib.hid hS
  have HW1 := Lib.hid hW1
  clear h h1 h2 h3 hr hm hi hS hW1
  go_enter Tryz.func27, Tryz.ntmps27
  go_upto_region 1 with fail
  rw [← HW1.out, ← HS.out]
  refine wp_region_lit ?_
  refine l_is (.load 87 (.tmp 3)) rfl rfl (run_ld_node (x := .tmp 3) rfl rfl S1.out) ?_
  go_wp2_with fail
  refine (LAY.out _ B1.out).mono ?_
  rintro e w2 ⟨rfl, hb2⟩
  have B2 := Lib.hid (B1.out.trans (hb2.mono B1.out.size))
  clear hb2
  go_wp2_with fail
  refine (NEW.out _ B2.out).mono ?_
  rintro e w3 ⟨rfl, hp, hk⟩
  have P3 := Lib.hid hp
  have K3 := Lib.hid ((KT.of_below B2.out B isPg).trans hk)
  clear hp hk
  go_wp2_with fail
  go_ret2
  exact ⟨rfl, P3.out, K3.out⟩
end Go.Proofs.YtnlolhlbpdmljaaGreatDoor
namespace Go.Proofs.YtnlolhlbpdmljaaGreatDoor
open Go.ChangeShapes Go.WideShapes Go.RowKit
section
variable {ρ : Operand → Value} {o : Oper}
theorem run_hi33_4 {x : Operand} (ho : o.op = .slice 33 x none (some (.const (.int .i64 4))) none) (hc : ρ (.const (.int .i64 4)) = .int .i64 4) {g n c : Nat} (hx : ρ x = .slice (some ⟨g, 0, none⟩) n c) (h : 4 < c) (w : World) : (execOp ρ o).run Tryz.prog w = .ok (.value (.slice (some ⟨g, 0, none⟩) 4 c)) w := by
  have h3 : (4 : Int) ≤ (c : Int) := by omega
  have h4 : c ≠ 0 := by omega
  unfold execOp; rw [ho]; simp [hx, hc, go_sem, h3, h4]
theorem run_lo33_4 {x : Operand} (ho : o.op = .slice 33 x (some (.const (.int .i64 4))) none none) (hc : ρ (.const (.int .i64 4)) = .int .i64 4) {g n c : Nat} (hx : ρ x = .slice (some ⟨g, 0, none⟩) n c) (hn : 4 ≤ n) (h' : 4 < c) (w : World) : (execOp ρ o).run Tryz.prog w = .ok (.value (.slice (some ⟨g, 4, none⟩) (n - 4) (c - 4))) w := by
  have h3 : (4 : Int) ≤ (n : Int) := by omega
  have h4 : c ≠ 4 := by omega
  unfold execOp; rw [ho]; simp [hx, hc, go_sem, h3, h4]
theorem run_hi33_5 {x : Operand} (ho : o.op = .slice 33 x none (some (.const (.int .i64 5))) none) (hc : ρ (.const (.int .i64 5)) = .int .i64 5) {g n c : Nat} (hx : ρ x = .slice (some ⟨g, 0, none⟩) n c) (h : 5 < c) (w : World) : (execOp ρ o).run Tryz.prog w = .ok (.value (.slice (some ⟨g, 0, none⟩) 5 c)) w := by
  have h3 : (5 : Int) ≤ (c : Int) := by omega
  have h4 : c ≠ 0 := by omega
  unfold execOp; rw [ho]; simp [hx, hc, go_sem, h3, h4]
theorem run_lo33_5 {x : Operand} (ho : o.op = .slice 33 x (some (.const (.int .i64 5))) none none) (hc : ρ (.const (.int .i64 5)) = .int .i64 5) {g n c : Nat} (hx : ρ x = .slice (some ⟨g, 0, none⟩) n c) (hn : 5 ≤ n) (h' : 5 < c) (w : World) : (execOp ρ o).run Tryz.prog w = .ok (.value (.slice (some ⟨g, 5, none⟩) (n - 5) (c - 5))) w := by
  have h3 : (5 : Int) ≤ (n : Int) := by omega
  have h4 : c ≠ 5 := by omega
  unfold execOp; rw [ho]; simp [hx, hc, go_sem, h3, h4]
theorem run_hi85_4 {x : Operand} (ho : o.op = .slice 85 x none (some (.const (.int .i64 4))) none) (hc : ρ (.const (.int .i64 4)) = .int .i64 4) {g n c : Nat} (hx : ρ x = .slice (some ⟨g, 0, none⟩) n c) (h : 4 < c) (w : World) : (execOp ρ o).run Tryz.prog w = .ok (.value (.slice (some ⟨g, 0, none⟩) 4 c)) w := by
  have h3 : (4 : Int) ≤ (c : Int) := by omega
  have h4 : c ≠ 0 := by omega
  unfold execOp; rw [ho]; simp [hx, hc, go_sem, h3, h4]
theorem run_lo85_4 {x : Operand} (ho : o.op = .slice 85 x (some (.const (.int .i64 4))) none none) (hc : ρ (.const (.int .i64 4)) = .int .i64 4) {g n c : Nat} (hx : ρ x = .slice (some ⟨g, 0, none⟩) n c) (hn : 4 ≤ n) (h' : 4 < c) (w : World) : (execOp ρ o).run Tryz.prog w = .ok (.value (.slice (some ⟨g, 4, none⟩) (n - 4) (c - 4))) w := by
  have h3 : (4 : Int) ≤ (n : Int) := by omega
  have h4 : c ≠ 4 := by omega
  unfold execOp; rw [ho]; simp [hx, hc, go_sem, h3, h4]
theorem run_build87 {x : Operand} (ho : o.op = .build 87 #[(0, x)]) {A : Option Addr} {n c : Nat} (hx : ρ x = .slice A n c) (w : World) : (execOp ρ o).run Tryz.prog w = .ok (.value (.agg #[.slice A n c, nilS, nilS])) w := by
  unfold execOp; rw [ho]; simp [hx, go_sem]
theorem run_alloc87 (ho : o.op = .alloc 87) (w : World) : (execOp ρ o).run Tryz.prog w = .ok (.value (.pointer (some ⟨w.heap.size, 0, none⟩))) (w.alloc (.cells #[nilS, nilS, nilS] 87)) := by
  unfold execOp; rw [ho]; simp [go_sem]
end
theorem own_cap {w : World} {B e n : Nat} {v : Value} {xs : List Value} (h : w.ownsRow B e 1 v n xs) (hn : 0 < n) : ∃ g c, v = .slice (some ⟨g, 0, none⟩) n c ∧ n ≤ c := by
  rcases h.2 with ⟨rfl, h0⟩ | ⟨g, cap, cur, rfl, _, _, h1, _⟩
  · omega
  · exact ⟨g, cap, rfl, h1⟩
theorem KT.setRow_new {B : Nat} {T : TypeId → Bool} {w w3 : World} (h : KT B T w w3) {R : Nat} (hR : w.heap.size ≤ R) (cs : Array Value) : KT B T w (w3.setRow R cs) :=
  ⟨h.os, h.tape, h.output, by rw [setRow_size]; exact h.size, fun k hk hu => (setRow_other _ _ _ _ (by omega)).trans (h.block k hk hu)⟩
theorem PAt.setRow {w : World} {B P d : Nat} {V : Nat → B8} {m : Nat} {s : SupT} {Fr Go : List Nat} (h : PAt w B P d V m s Fr Go) {R : Nat} {cs : Array Value} {t : TypeId} (hR : w.heap[R]? = some (.cells cs t (0, 0))) (ht : isPg t = false) (cs' : Array Value) : PAt (w.setRow R cs') B P d V m s Fr Go := by
  have ne : ∀ {k : Nat} {xs : Array Value} {t' : TypeId}, w.heap[k]? = some (.cells xs t' (0, 0)) → isPg t' = true → k ≠ R := fun hk ht' e => by
    subst e
    rw [hk] at hR
    injection hR with hR
    injection hR with _ hR _
    rw [hR, ht] at ht'
    cases ht'
  refine ⟨(setRow_other _ _ _ _ (ne h.obj rfl)).trans h.obj, ?_, h.su, h.sf, h.sg, h.low⟩
  obtain ⟨g, v, F, L, h1, h2⟩ := h.dsk
  refine ⟨g, v, F, L, ⟨(setRow_other _ _ _ _ (ne h1.obj rfl)).trans h1.obj, (setRow_other _ _ _ _ (ne h1.row rfl)).trans h1.row, h1.len, h1.page, own_row h1.own (fun q hq => ?_), h1.small, h1.lpage, h1.low⟩, h2⟩
  rcases h1.own.2 with ⟨rfl, _⟩ | ⟨g', cap, cur, rfl, _, hh, _⟩
  · cases hq
  · have : g' = q := by injection hq
    subst this
    exact setRow_other _ _ _ _ (ne hh rfl)
def gv (l r k : Nat) (two : Bool) : Array Value := #[.int .i64 (l : Int), .int .i64 (r : Int), .int .i64 (k : Int), .bool two]
theorem gv_one (l r k : Nat) (two : Bool) : (gv l r k two).all (·.oneCell') = true := by simp [gv, Value.oneCell']
theorem size89 : (Tryz.prog.info? 89).map (·.size) = some 4 := by kernel_rfl
abbrev L89 : Array Value := #[.int .i64 0, .int .i64 0, .int .i64 0, .bool false]
theorem results_grown {fn : Func} {p u : Tmp} (h : fn.results = #[.cell p 89, .tmp u]) (tmps : Array Value) (w : World) (g : Nat) {cs : Array Value} {t : TypeId} {fr : Nat × Nat} (v : Value)
    (hp : tmps.getD p undef = .pointer (some ⟨g, 0, none⟩)) (hg : w.heap[g]? = some (.cells cs t fr)) (hc : cs.size = 4) (hv : tmps.getD u undef = v) :
    (results fn tmps).run Tryz.prog w = .ok (.tuple #[.agg cs, v]) w := by
  rw [results_cell_tmp h, hp, hv]
  simp only [asAddr, Sem.run_pure, Result.andThen_ok, run_loadVar_row w g t 89 cs fr _ hg Tryz.underlying89 rfl (by rw [hc]; exact size89)]
set_option maxRecDepth 100000 in
set_option maxHeartbeats 2000000 in
theorem parted_one {w : World} {B P d : Nat} {V : Nat → B8} {m : Nat} {s : SupT} {Fr Go : List Nat} (h : PAt w B P d V m s Fr Go) (v : Value) (n : PN) (hn : NAt w v n) (hr : NRight n) (hm : m < 100000) (i : Nat) (hi : FreeAt (bothP s.2.2 Fr) i) :
    Calls Tryz.prog 58 #[.pointer (some ⟨P, 0, none⟩), v] w fun e w' => e = .returned (.tuple #[.agg (gv i 0 0 false), .nilIface]) ∧ PAt w' B P d (upd V i (laidP 2 (nlay n))) (m + 1) s (withP Fr (i : Int)) Go ∧ KT B isPg w w' := by
  have HN := Lib.hid hn
  have ST := Lib.hid (show ∀ w', Below w.heap.size w w' → _ from fun w' hb => tstore_any (h.below hb) v n (HN.out.below hb) hr hm i hi)
  obtain ⟨sK, sV, sC, rfl, h1, h2, h3⟩ := hn
  obtain ⟨A1, c1, e1⟩ := h1.shape
  rw [ints_length] at e1
  obtain ⟨S, hS⟩ : ∃ S, S = w.heap.size := ⟨_, rfl⟩
  obtain ⟨R, hR⟩ : ∃ S, S = w.heap.size + 1 := ⟨_, rfl⟩
  obtain ⟨W1, hW1⟩ : ∃ W, W = (w.alloc (.cells #[sK, sV, sC] 87)).alloc (.cells L89 89) := ⟨_, rfl⟩
  have s1 : W1.heap[S]? = some (.cells #[sK, sV, sC] 87 (0, 0)) := by rw [hW1, hS]; exact heap_alloc2_old _ _ _
  have R1 := Lib.hid (show W1.heap[R]? = some (.cells L89 89 (0, 0)) by rw [hW1, hR]; exact heap_alloc2_new _ _ _)
  have B1 := Lib.hid (show Below w.heap.size w W1 by rw [hW1]; exact ((Below.refl _ _).alloc (Nat.le_refl _) _).alloc (by simp) _)
  have S1 := Lib.hid s1
  have HS := Lib.hid hS
  have HR := Lib.hid hR
  have HW1 := Lib.hid hW1
  have RB := Lib.hid (show w.heap.size ≤ R by omega)
  have h7 := hr.keys.1
  have hle : (n.keys.length : Int) ≤ 7 := by omega
  subst e1
  have c0 : W1.cell? ⟨S, 0, none⟩ = some (.slice A1 n.keys.length c1) := cell_of_row W1 S 0 _ 87 (0, 0) s1
  clear h h1 h2 h3 hr hm hi hS hR hW1 s1
  go_enter Tryz.func58, Tryz.ntmps58
  go_upto_region 1 with fail
  rw [← HW1.out, ← HR.out, ← HS.out]
  go_wp2_with (first | (go_at_call 27; refine (ST.out _ B1.out).mono ?_; rintro e w3 ⟨rfl, hp, hk⟩; have P3 := Lib.hid hp; have K3 := Lib.hid ((KT.of_below B1.out B isPg).trans hk); have R3 := Lib.hid (hk.cells R1.out rfl); clear hp hk) | (refine l_is (.load 87 (.tmp 3)) rfl rfl (run_ld_node (x := .tmp 3) rfl rfl S1.out) ?_) | (refine wpList_store_row rfl 89 (.tmp 4) (.tmp 24) rfl R (gv i 0 0 false) rfl rfl 89 L89 R3.out size89 rfl (gv_one _ _ _ _) ?_))
  exact bodyPost_ret (results_grown rfl _ _ R .nilIface rfl (setRow_has R3.out) rfl rfl) rfl ⟨rfl, P3.out.setRow R3.out rfl _, K3.out.setRow_new RB.out _⟩
end Go.Proofs.YtnlolhlbpdmljaaGreatDoor
