/-
  node.Lay.
  Conditions: the node is right.
-/
import Derived.Test.YtnlolhlbpdmljaaGreatDoorNodC
namespace Go.Proofs.YtnlolhlbpdmljaaGreatDoor
open Go.ChangeShapes Go.WideShapes Go.RowKit
def nkind (n : PN) : Nat := if n.kids.length = 0 then 0 else 1
def nhead (n : PN) : B8 := be 1 (nkind n) ++ be 1 n.keys.length
def keyB (l : List Nat) : B8 := l.flatMap (be 4)
def kidB (l : List Nat) : B8 := l.flatMap (be 1)
def nlay (n : PN) : B8 := nhead n ++ keyB n.keys ++ n.vals.flatten ++ kidB n.kids
theorem nkind_le (n : PN) : nkind n ≤ 1 := by unfold nkind; split <;> omega
theorem nhead_length (n : PN) : (nhead n).length = 2 := by unfold nhead; simp [be_length]
theorem keyB_length (l : List Nat) : (keyB l).length = 4 * l.length := by
  unfold keyB
  induction l with
  | nil => rfl
  | cons x l ih => rw [List.flatMap_cons, List.length_append, ih, be_length, List.length_cons]; omega
theorem kidB_length (l : List Nat) : (kidB l).length = l.length := by
  unfold kidB
  induction l with
  | nil => rfl
  | cons x l ih => rw [List.flatMap_cons, List.length_append, ih, be_length, List.length_cons]; omega
theorem vals_length {l : List B8} (h : ∀ v ∈ l, v.length = 12) : l.flatten.length = 12 * l.length := by
  induction l with
  | nil => rfl
  | cons x l ih => rw [List.flatten_cons, List.length_append, ih (fun v hv => h v (by simp [hv])), h x (by simp), List.length_cons]; omega
theorem keyB_take {l : List Nat} {k : Nat} (hk : k < l.length) : keyB (l.take (k + 1)) = keyB (l.take k) ++ be 4 l[k] := by
  unfold keyB
  rw [List.take_add_one, List.getElem?_eq_getElem hk, List.flatMap_append]; simp
theorem kidB_take {l : List Nat} {k : Nat} (hk : k < l.length) : kidB (l.take (k + 1)) = kidB (l.take k) ++ be 1 l[k] := by
  unfold kidB
  rw [List.take_add_one, List.getElem?_eq_getElem hk, List.flatMap_append]; simp
theorem vals_take {l : List B8} {k : Nat} (hk : k < l.length) : (l.take (k + 1)).flatten = (l.take k).flatten ++ l[k] := by
  rw [List.take_add_one, List.getElem?_eq_getElem hk, List.flatten_append]; simp
structure NSize (n : PN) : Prop where
  keys : n.keys.length ≤ 7
  kids : n.kids.length ≤ 8
  nvals : n.vals.length ≤ 7
  vals : ∀ v ∈ n.vals, v.length = 12
  kid : ∀ k ∈ n.kids, k < 256
  key : ∀ k ∈ n.keys, k < 4294967296
theorem NRight.size {n : PN} (h : NRight n) : NSize n := by
  have h7 := h.keys.1
  have hk := fun k hk => Nat.lt_succ_of_le (h.keys.2.1 k hk)
  rcases h.shape with ⟨e, h1, h2⟩ | ⟨e, h1, h2, h3, h4⟩
  · exact ⟨h7, by rw [e]; simp, by omega, h2, by rw [e]; simp, hk⟩
  · exact ⟨h7, by omega, by rw [e]; simp, by rw [e]; simp, fun k hk => by have := h3 k hk; omega, hk⟩
theorem nlay_length {n : PN} (h : NRight n) : (nlay n).length ≤ 114 := by
  unfold nlay
  rw [List.length_append, List.length_append, List.length_append, nhead_length, keyB_length, kidB_length]
  have h7 := h.keys.1
  rcases h.shape with ⟨e, h1, h2⟩ | ⟨e, h1, h2, h3, h4⟩
  · rw [vals_length h2, e]; simp; omega
  · rw [e]; simp; omega
section
variable {ρ : Operand → Value} {o : Oper}
theorem size87 : (Tryz.prog.info? 87).map (·.size) = some 3 := by kernel_rfl
theorem run_fld87_0 {x : Operand} (ho : o.op = .fieldAddr 87 x 0) {d : Nat} (hx : ρ x = .pointer (some ⟨d, 0, none⟩)) (w : World) : (execOp ρ o).run Tryz.prog w = .ok (.value (.pointer (some ⟨d, 0, none⟩))) w := by
  unfold execOp; rw [ho]; simp [hx, go_sem]
theorem run_fld87_1 {x : Operand} (ho : o.op = .fieldAddr 87 x 1) {d : Nat} (hx : ρ x = .pointer (some ⟨d, 0, none⟩)) (w : World) : (execOp ρ o).run Tryz.prog w = .ok (.value (.pointer (some ⟨d, 1, none⟩))) w := by
  unfold execOp; rw [ho]; simp [hx, go_sem]
theorem run_fld87_2 {x : Operand} (ho : o.op = .fieldAddr 87 x 2) {d : Nat} (hx : ρ x = .pointer (some ⟨d, 0, none⟩)) (w : World) : (execOp ρ o).run Tryz.prog w = .ok (.value (.pointer (some ⟨d, 2, none⟩))) w := by
  unfold execOp; rw [ho]; simp [hx, go_sem]
theorem run_ld_node {x : Operand} (ho : o.op = .load 87 x) {S : Nat} (hx : ρ x = .pointer (some ⟨S, 0, none⟩)) {a b c : Value} {t : TypeId} {fr : Nat × Nat} {w : World} (h : w.heap[S]? = some (.cells #[a, b, c] t fr)) : (execOp ρ o).run Tryz.prog w = .ok (.value (.agg #[a, b, c])) w :=
  run_load_agg ho hx h Tryz.underlying87 rfl size87
end
set_option maxRecDepth 100000 in
set_option maxHeartbeats 4000000 in
theorem nlay_any (w : World) (v : Value) (n : PN) (h : NAt w v n) (hr : NRight n) : Calls Tryz.prog 50 #[v] w fun e w' => e = .returned (.tuple #[.string (strB (nlay n)), .nilIface]) ∧ Below w.heap.size w w' := by
  have HN := Lib.hid h
  have RIGHT := Lib.hid (show ∀ w', Below w.heap.size w w' → _ from fun w' hb => nright_any w' v n (HN.out.below hb) hr)
  have LEAF := Lib.hid (show ∀ w', Below w.heap.size w w' → _ from fun w' hb => leaf_any w' v n (HN.out.below hb))
  obtain ⟨sK, sV, sC, rfl, h1, h2, h3⟩ := h
  obtain ⟨A1, c1, e1⟩ := h1.shape
  obtain ⟨A2, c2, e2⟩ := h2.shape
  obtain ⟨A3, c3, e3⟩ := h3.shape
  rw [ints_length] at e1 e3
  rw [strs_length] at e2
  subst e1 e2 e3
  have K0 := Lib.hid h1
  have V0 := Lib.hid h2
  have C0 := Lib.hid h3
  obtain ⟨S, hS⟩ : ∃ S, S = w.heap.size := ⟨_, rfl⟩
  obtain ⟨W1, hW1⟩ : ∃ W, W = w.alloc (.cells #[.slice A1 n.keys.length c1, .slice A2 n.vals.length c2, .slice A3 n.kids.length c3] 87) := ⟨_, rfl⟩
  have S1 := Lib.hid (show W1.heap[S]? = some (.cells #[.slice A1 n.keys.length c1, .slice A2 n.vals.length c2, .slice A3 n.kids.length c3] 87 (0, 0)) by rw [hW1, hS]; exact heap_alloc_new _ _)
  have B1 := Lib.hid (show Below w.heap.size w W1 by rw [hW1]; exact (Below.refl _ _).alloc (Nat.le_refl _) _)
  have HS := Lib.hid hS
  have HW1 := Lib.hid hW1
  have SZ := Lib.hid hr.size
  have h7 := hr.size.keys
  have h7k := hr.size.kids
  have h7v := hr.size.nvals
  have HR := Lib.hid hr
  have HKIND := Lib.hid (show (if decide (n.kids.length = 0) = true then 0 else 1) = nkind n by unfold nkind; simp)
  have CELL := Lib.hid (show ∀ w' : World, w'.heap[S]? = some (.cells #[.slice A1 n.keys.length c1, .slice A2 n.vals.length c2, .slice A3 n.kids.length c3] 87 (0, 0)) → w'.cell? ⟨S, 0, none⟩ = some (.slice A1 n.keys.length c1) ∧ w'.cell? ⟨S, 1, none⟩ = some (.slice A2 n.vals.length c2) ∧ w'.cell? ⟨S, 2, none⟩ = some (.slice A3 n.kids.length c3) from fun w' h => ⟨cell_of_row w' S 0 _ 87 (0, 0) h, cell_of_row w' S 1 _ 87 (0, 0) h, cell_of_row w' S 2 _ 87 (0, 0) h⟩)
  clear h1 h2 h3 hS hW1 hr
  go_enter Tryz.func50, Tryz.ntmps50
  go_upto_region 1 with fail
  rw [← HW1.out, ← HS.out]
  refine wp_region_lit ?_
  refine l_is (.load 87 (.tmp 1)) rfl rfl (run_ld_node (x := .tmp 1) rfl rfl S1.out) ?_
  go_wp2_with fail
  refine (RIGHT.out _ B1.out).mono ?_
  rintro e w2 ⟨rfl, hb2⟩
  have S2 := Lib.hid ((hb2.block S (row_lt S1.out)).trans S1.out)
  have B2 := Lib.hid (B1.out.trans (hb2.mono B1.out.size))
  clear hb2
  go_upto_region 4 with fail
  refine wp_region_lit ?_
  refine l_is (.load 87 (.tmp 1)) rfl rfl (run_ld_node (x := .tmp 1) rfl rfl S2.out) ?_
  go_wp2_with fail
  refine (LEAF.out _ B2.out).mono ?_
  rintro e w3 ⟨rfl, hb3⟩
  have S3 := Lib.hid ((hb3.block S (row_lt S2.out)).trans S2.out)
  have B3 := Lib.hid (B2.out.trans (hb3.mono B2.out.size))
  have SL := Lib.hid (row_lt S3.out)
  have CS := Lib.hid (show ∀ w', Below w3.heap.size w3 w' → w'.heap[S]? = some (.cells #[.slice A1 n.keys.length c1, .slice A2 n.vals.length c2, .slice A3 n.kids.length c3] 87 (0, 0)) from fun w' hw' => (hw'.block S SL.out).trans S3.out)
  have KL := Lib.hid (show nkind n < 256 ∧ n.keys.length < 256 by have := nkind_le n; omega)
  clear hb3
  by_cases hz : n.kids.length = 0
  all_goals
    first | rw [decide_eq_true hz] | rw [decide_eq_false hz]
    first | (have hkk : nkind n = 0 := by unfold nkind; rw [if_pos hz]) | (have hkk : nkind n = 1 := by unfold nkind; rw [if_neg hz])
    have HKK := Lib.hid hkk
    clear hkk hz
    go_upto_region 6 with fail
    refine r_region (fun w' => Below w3.heap.size w3 w') (by kernel_rfl) (by kernel_rfl) (Below.refl _ _).drew ?_
    refine r_val (u := .int .i64 ((nkind n : Nat) : Int)) rfl (fun w' hw' => run_move_is (.tmp 4) (.int .i64 ((nkind n : Nat) : Int)) rfl (by rw [HKK.out]; rfl) w') ?_
    simp only [Act.put, List.setIfInBounds_toArray, List.set_cons_succ, List.set_cons_zero]
    refine r_call rfl (args := #[(.int .i64 ((1 : Nat) : Int)), (.int .i64 (nkind n : Int))]) (fun w' hw' => run_call2 (u := (.int .i64 ((1 : Nat) : Int))) (v := (.int .i64 (nkind n : Int))) rfl Tryz.call68 rfl rfl w') (fun w' hw' => (put_any 1 (nkind n) (by omega) (by omega) KL.out.1 w').mono (fun e w'' ⟨he, hb⟩ => ⟨he, hw'.trans (hb.mono hw'.size)⟩)) ?_
    simp only [Act.put, List.setIfInBounds_toArray, List.set_cons_succ, List.set_cons_zero]
    refine r_val rfl (fun w' hw' => run_fld87_0 (x := .tmp 1) rfl rfl w') ?_
    simp only [Act.put, List.setIfInBounds_toArray, List.set_cons_succ, List.set_cons_zero]
    refine r_val rfl (fun w' hw' => run_load_slice Tryz.underlying33 (x := .tmp 21) rfl rfl (CELL.out w' (CS.out w' hw')).1) ?_
    simp only [Act.put, List.setIfInBounds_toArray, List.set_cons_succ, List.set_cons_zero]
    refine r_val rfl (fun w' hw' => run_len_T Tryz.underlying33 (x := .tmp 22) rfl rfl w') ?_
    simp only [Act.put, List.setIfInBounds_toArray, List.set_cons_succ, List.set_cons_zero]
    refine r_call rfl (args := #[(.int .i64 ((1 : Nat) : Int)), (.int .i64 (n.keys.length : Int))]) (fun w' hw' => run_call2 (u := (.int .i64 ((1 : Nat) : Int))) (v := (.int .i64 (n.keys.length : Int))) rfl Tryz.call68 rfl rfl w') (fun w' hw' => (put_any 1 n.keys.length (by omega) (by omega) KL.out.2 w').mono (fun e w'' ⟨he, hb⟩ => ⟨he, hw'.trans (hb.mono hw'.size)⟩)) ?_
    simp only [Act.put, List.setIfInBounds_toArray, List.set_cons_succ, List.set_cons_zero]
    refine r_val rfl (fun w' hw' => run_add_str (x := .tmp 20) (y := .tmp 24) rfl rfl rfl (by simp [be_length]) w') ?_
    simp only [Act.put, List.setIfInBounds_toArray, List.set_cons_succ, List.set_cons_zero]
    refine r_val rfl (fun w' hw' => run_assign_is (.tmp 25) (.string (strB (nhead n))) rfl rfl w') ?_
    simp only [Act.put, List.setIfInBounds_toArray, List.set_cons_succ, List.set_cons_zero]
    refine r_nil ?_
    intro w4 hw4
    have b4 := B3.out.trans (hw4.mono B3.out.size)
    have B4 := Lib.hid b4
    have S4 := Lib.hid (CS.out w4 hw4)
    obtain ⟨k0, k1, k2⟩ := CELL.out w4 S4.out
    clear hw4 b4
    go_wp2_with fail
    go_loopw [5, 29] (fun s i' wr => ∃ k : Nat, i' = .int .i64 k ∧ k ≤ n.keys.length ∧ s = .string (strB (nhead n ++ keyB (n.keys.take k))) ∧ Below w4.heap.size w4 wr) (fun _ i' _ => n.keys.length - (RowKit.intOf i').toNat)
    case atStart => exact ⟨0, rfl, by omega, by simp [keyB], Below.refl _ _⟩
    case round =>
      obtain ⟨k, rfl, hk, rfl, hb⟩ := hrel
      have BB := Lib.hid hb
      have SS := Lib.hid ((hb.block S (row_lt S4.out)).trans S4.out)
      have bw := B4.out.trans (hb.mono B4.out.size)
      by_cases hlt : k < n.keys.length
      · have hAT := (K0.out.below bw).at.2 k _ (ints_at hlt)
        obtain ⟨g, o, rfl, hck, _⟩ := hAT
        obtain ⟨x, hx⟩ : ∃ x, x = n.keys[k] := ⟨_, rfl⟩
        rw [← hx] at hck
        have NX := Lib.hid (show nhead n ++ (keyB (n.keys.take k) ++ be 4 x) = nhead n ++ keyB (n.keys.take (k + 1)) by rw [keyB_take hlt, hx])
        have PUT := Lib.hid (fun w => put_any 4 x (by omega) (by omega) (by have := SZ.out.key x (by rw [hx]; exact List.getElem_mem _); omega) w)
        have BND := Lib.hid (show (nhead n ++ keyB (n.keys.take k)).length + (be 4 x).length ≤ 1000000 by rw [List.length_append, nhead_length, keyB_length, be_length, List.length_take]; omega)
        have HLT := Lib.hid hlt
        clear hx bw hb
        go_wp2_with (first | (go_at_call 68; refine (PUT.out _).mono ?_; rintro e w5 ⟨rfl, hb5⟩; have B5 := Lib.hid (BB.out.trans (hb5.mono BB.out.size)); clear hb5) | (refine l_is (.binOp .add 9 (.tmp 33) (.tmp 35) 9) rfl rfl (run_add_str (x := .tmp 33) (y := .tmp 35) rfl rfl rfl BND.out _) ?_))
        go_roundw
        case rel => exact ⟨k + 1, by go_num, HLT.out, by rw [NX.out], B5.out⟩
        case measure => have := HLT.out; simp [RowKit.intOf]; omega
      · have hkl : k = n.keys.length := by omega
        subst hkl
        rw [List.take_length]
        obtain ⟨m0, m1, m2⟩ := CELL.out wr SS.out
        have B6 := Lib.hid bw
        clear hb bw k0 k1 k2
        obtain ⟨p1, hp1⟩ : ∃ p, p = nhead n ++ keyB n.keys := ⟨_, rfl⟩
        rw [← hp1]
        have P1 := Lib.hid hp1
        have L1 := Lib.hid (show p1.length ≤ 30 by rw [hp1, List.length_append, nhead_length, keyB_length]; omega)
        clear hp1
        go_wp2_with fail
        go_loopw [5, 41] (fun s i' wr2 => ∃ k : Nat, i' = .int .i64 k ∧ k ≤ n.vals.length ∧ s = .string (strB (p1 ++ (n.vals.take k).flatten)) ∧ wr = wr2) (fun _ i' _ => n.vals.length - (RowKit.intOf i').toNat)
        case atStart => exact ⟨0, rfl, by omega, by simp, rfl⟩
        case round =>
          obtain ⟨k, rfl, hk, rfl, rfl⟩ := hrel
          by_cases hlt : k < n.vals.length
          · have hAT := (V0.out.below B6.out).at.2 k _ (strs_at hlt)
            obtain ⟨g, o, rfl, hck, _⟩ := hAT
            obtain ⟨x, hx⟩ : ∃ x, x = n.vals[k] := ⟨_, rfl⟩
            rw [← hx] at hck
            have NX := Lib.hid (show p1 ++ ((n.vals.take k).flatten ++ x) = p1 ++ (n.vals.take (k + 1)).flatten by rw [vals_take hlt, hx])
            have BND := Lib.hid (show (p1 ++ (n.vals.take k).flatten).length + x.length ≤ 1000000 by
              rw [List.length_append, vals_length (fun v hv => SZ.out.vals v (List.mem_of_mem_take hv)), List.length_take, SZ.out.vals x (by rw [hx]; exact List.getElem_mem _)]; have := L1.out; omega)
            have HLT := Lib.hid hlt
            clear hx
            go_wp2_with (refine l_is (.binOp .add 9 (.tmp 45) (.tmp 46) 9) rfl rfl (run_add_str (x := .tmp 45) (y := .tmp 46) rfl rfl rfl BND.out _) ?_)
            go_roundw
            case rel => exact ⟨k + 1, by go_num, HLT.out, by rw [NX.out], trivial⟩
            case measure => have := HLT.out; simp [RowKit.intOf]; omega
          · have hkl : k = n.vals.length := by omega
            subst hkl
            rw [List.take_length]
            obtain ⟨p2, hp2⟩ : ∃ p, p = p1 ++ n.vals.flatten := ⟨_, rfl⟩
            rw [← hp2]
            have P2 := Lib.hid hp2
            have L2 := Lib.hid (show p2.length ≤ 200 by rw [hp2, List.length_append, vals_length SZ.out.vals]; have := L1.out; omega)
            clear hp2
            go_wp2_with fail
            go_loopw [5, 52] (fun s i' wr3 => ∃ k : Nat, i' = .int .i64 k ∧ k ≤ n.kids.length ∧ s = .string (strB (p2 ++ kidB (n.kids.take k))) ∧ Below wr.heap.size wr wr3) (fun _ i' _ => n.kids.length - (RowKit.intOf i').toNat)
            case atStart => exact ⟨0, rfl, by omega, by simp [kidB], Below.refl _ _⟩
            case round =>
              obtain ⟨k, rfl, hk, rfl, hb⟩ := hrel
              have BC := Lib.hid hb
              have bw := B6.out.trans (hb.mono B6.out.size)
              by_cases hlt : k < n.kids.length
              · have hAT := (C0.out.below bw).at.2 k _ (ints_at hlt)
                obtain ⟨g, o, rfl, hck, _⟩ := hAT
                obtain ⟨x, hx⟩ : ∃ x, x = n.kids[k] := ⟨_, rfl⟩
                rw [← hx] at hck
                have NX := Lib.hid (show p2 ++ (kidB (n.kids.take k) ++ be 1 x) = p2 ++ kidB (n.kids.take (k + 1)) by rw [kidB_take hlt, hx])
                have PUT := Lib.hid (fun w => put_any 1 x (by omega) (by omega) (by have := SZ.out.kid x (by rw [hx]; exact List.getElem_mem _); omega) w)
                have BND := Lib.hid (show (p2 ++ kidB (n.kids.take k)).length + (be 1 x).length ≤ 1000000 by rw [List.length_append, kidB_length, be_length, List.length_take]; have := L2.out; omega)
                have HLT := Lib.hid hlt
                clear hx bw hb
                go_wp2_with (first | (go_at_call 68; refine (PUT.out _).mono ?_; rintro e w5 ⟨rfl, hb5⟩; have B5 := Lib.hid (BC.out.trans (hb5.mono BC.out.size)); clear hb5) | (refine l_is (.binOp .add 9 (.tmp 56) (.tmp 58) 9) rfl rfl (run_add_str (x := .tmp 56) (y := .tmp 58) rfl rfl rfl BND.out _) ?_))
                go_roundw
                case rel => exact ⟨k + 1, by go_num, HLT.out, by rw [NX.out], B5.out⟩
                case measure => have := HLT.out; simp [RowKit.intOf]; omega
              · have hkl : k = n.kids.length := by omega
                subst hkl
                have B9 := Lib.hid bw
                have FIN := Lib.hid (show p2 ++ kidB (n.kids.take n.kids.length) = nlay n by rw [List.take_length, P2.out, P1.out]; rfl)
                clear hb bw
                go_wp2_with fail
                go_ret2
                refine ⟨?_, B9.out⟩
                rw [← FIN.out]
                rfl
end Go.Proofs.YtnlolhlbpdmljaaGreatDoor
