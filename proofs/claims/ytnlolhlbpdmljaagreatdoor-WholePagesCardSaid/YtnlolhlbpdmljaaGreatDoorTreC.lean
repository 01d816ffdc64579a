/-
  tree.parted of a node with one key too many.
  Conditions: the node has eight keys that rise; there are two free pages.
-/
import Derived.Test.YtnlolhlbpdmljaaGreatDoorTreB
namespace Go.Proofs.YtnlolhlbpdmljaaGreatDoor
open Go.ChangeShapes Go.WideShapes Go.RowKit
theorem RowAt.moved {w w' : World} {t : TypeId} {v : Value} {xs : List Value} (h : RowAt w t v xs) (hb : ∀ (k : Nat) (cs : Array Value), w.heap[k]? = some (Obj.cells cs t (0, 0)) → w'.heap[k]? = w.heap[k]?) : RowAt w' t v xs := by
  obtain ⟨A, c, rfl, h2⟩ := h
  refine ⟨A, c, rfl, fun hx => ?_⟩
  obtain ⟨g, o, cs, h3, h4, h5⟩ := h2 hx
  exact ⟨g, o, cs, h3, (hb g cs h4).trans h4, h5⟩
/-- A node with one key too many. -/
structure NBig (n : PN) : Prop where
  len : n.keys.length = 8
  le : ∀ k ∈ n.keys, k ≤ 4294967295
  up : List.Pairwise (· < ·) n.keys
  shape : (n.kids = [] ∧ n.vals.length = 8 ∧ ∀ v ∈ n.vals, v.length = 12) ∨ (n.vals = [] ∧ n.kids.length = 9 ∧ (∀ k ∈ n.kids, 2 ≤ k ∧ k < 240) ∧ n.kids.Nodup)
def splitA (n : PN) : PN := if n.kids.length = 0 then ⟨n.keys.take 4, n.vals.take 4, []⟩ else ⟨n.keys.take 4, [], n.kids.take 5⟩
def splitB (n : PN) : PN := if n.kids.length = 0 then ⟨n.keys.drop 4, n.vals.drop 4, []⟩ else ⟨n.keys.drop 5, [], n.kids.drop 5⟩
theorem keysOk_part {l m : List Nat} (hs : m.Sublist l) (h7 : m.length ≤ 7) (le : ∀ k ∈ l, k ≤ 4294967295) (up : List.Pairwise (· < ·) l) : KeysOk m := ⟨h7, fun k hk => le k (hs.subset hk), up.sublist hs⟩
theorem NBig.rightA {n : PN} (h : NBig n) : NRight (splitA n) := by
  have hl := h.len
  unfold splitA
  rcases h.shape with ⟨e, h1, h2⟩ | ⟨e, h1, h2, h3⟩
  · rw [if_pos (by rw [e]; rfl)]
    exact ⟨keysOk_part (List.take_sublist _ _) (by simp; omega) h.le h.up, .inl ⟨rfl, by simp; omega, fun v hv => h2 v (List.mem_of_mem_take hv)⟩⟩
  · rw [if_neg (by omega)]
    exact ⟨keysOk_part (List.take_sublist _ _) (by simp; omega) h.le h.up, .inr ⟨rfl, by simp; omega, by simp; omega, fun v hv => h2 v (List.mem_of_mem_take hv), h3.sublist (List.take_sublist _ _)⟩⟩
theorem NBig.rightB {n : PN} (h : NBig n) : NRight (splitB n) := by
  have hl := h.len
  unfold splitB
  rcases h.shape with ⟨e, h1, h2⟩ | ⟨e, h1, h2, h3⟩
  · rw [if_pos (by rw [e]; rfl)]
    exact ⟨keysOk_part (List.drop_sublist _ _) (by simp; omega) h.le h.up, .inl ⟨rfl, by simp; omega, fun v hv => h2 v (List.mem_of_mem_drop hv)⟩⟩
  · rw [if_neg (by omega)]
    exact ⟨keysOk_part (List.drop_sublist _ _) (by simp; omega) h.le h.up, .inr ⟨rfl, by simp; omega, by simp; omega, fun v hv => h2 v (List.mem_of_mem_drop hv), h3.sublist (List.drop_sublist _ _)⟩⟩
theorem ints_take (l : List Nat) (k : Nat) : ints (l.take k) = (ints l).take k := by unfold ints; rw [List.map_take]
theorem ints_drop (l : List Nat) (k : Nat) : ints (l.drop k) = (ints l).drop k := by unfold ints; rw [List.map_drop]
theorem strs_take (l : List B8) (k : Nat) : strs (l.take k) = (strs l).take k := by unfold strs; rw [List.map_take]
theorem strs_drop (l : List B8) (k : Nat) : strs (l.drop k) = (strs l).drop k := by unfold strs; rw [List.map_drop]
theorem row_hi {w : World} {t g n c : Nat} {xs : List Value} (h : RowAt w t (.slice (some ⟨g, 0, none⟩) n c) xs) (k : Nat) (hk : k ≤ xs.length) : RowAt w t (.slice (some ⟨g, 0, none⟩) k c) (xs.take k) := by
  have := h.part 0 k c (by omega)
  simpa using this
theorem row_lo {w : World} {t g n c : Nat} {xs : List Value} (h : RowAt w t (.slice (some ⟨g, 0, none⟩) n c) xs) (k c' : Nat) (hk : k ≤ xs.length) : RowAt w t (.slice (some ⟨g, k, none⟩) (xs.length - k) c') (xs.drop k) := by
  have := h.part k (xs.length - k) c' (by omega)
  rw [List.take_of_length_le (by simp)] at this
  simpa using this
set_option maxRecDepth 100000 in
set_option maxHeartbeats 4000000 in
theorem parted_two {w : World} {B B' P d : Nat} {V : Nat → B8} {m : Nat} {s : SupT} {Fr Go : List Nat} (h : PAt w B P d V m s Fr Go) (vK vV vC : Value) (n : PN) (hn : NOwn w B' vK vV vC n) (hr : NBig n) (hm : m + 1 < 100000) (i j : Nat) (hi : FreeAt (bothP s.2.2 Fr) i) (hj : FreeAt (bothP s.2.2 (withP Fr (i : Int))) j) :
    Calls Tryz.prog 58 #[.pointer (some ⟨P, 0, none⟩), .agg #[vK, vV, vC]] w fun e w' => e = .returned (.tuple #[.agg (gv i j (n.keys.getD 4 0) true), .nilIface]) ∧ PAt w' B P d (upd (upd V i (laidP 2 (nlay (splitA n)))) j (laidP 2 (nlay (splitB n)))) (m + 2) s (withP (withP Fr (i : Int)) (j : Int)) Go ∧ KT B isPg w w' := by
  have hk8 := hr.len
  have K8 := Lib.hid hr.len
  obtain ⟨g, c, rfl, hgc⟩ := own_cap hn.keys (by omega)
  rw [hk8] at hgc hn
  rw [hk8]
  have HN := Lib.hid hn
  have HP := Lib.hid h
  obtain ⟨A2, c2, rfl⟩ := own_slice hn.vals
  obtain ⟨A3, c3, rfl⟩ := own_slice hn.kids
  have LEAF := Lib.hid (show ∀ w', Below w.heap.size w w' → _ from fun w' hb => leaf_any w' _ n (HN.out.below hb).at)
  have RA := Lib.hid hr.rightA
  have RB := Lib.hid hr.rightB
  have HR := Lib.hid hr
  obtain ⟨S, hS⟩ : ∃ S, S = w.heap.size := ⟨_, rfl⟩
  obtain ⟨R, hR⟩ : ∃ S, S = w.heap.size + 1 := ⟨_, rfl⟩
  obtain ⟨W1, hW1⟩ : ∃ W, W = (w.alloc (.cells #[.slice (some ⟨g, 0, none⟩) 8 c, .slice A2 n.vals.length c2, .slice A3 n.kids.length c3] 87)).alloc (.cells L89 89) := ⟨_, rfl⟩
  have s1 : W1.heap[S]? = some (.cells #[.slice (some ⟨g, 0, none⟩) 8 c, .slice A2 n.vals.length c2, .slice A3 n.kids.length c3] 87 (0, 0)) := by rw [hW1, hS]; exact heap_alloc2_old _ _ _
  have R1 := Lib.hid (show W1.heap[R]? = some (.cells L89 89 (0, 0)) by rw [hW1, hR]; exact heap_alloc2_new _ _ _)
  have B1 := Lib.hid (show Below w.heap.size w W1 by rw [hW1]; exact ((Below.refl _ _).alloc (Nat.le_refl _) _).alloc (by simp) _)
  have S1 := Lib.hid s1
  have HS := Lib.hid hS
  have HR_ := Lib.hid hR
  have HW1 := Lib.hid hW1
  have RG := Lib.hid (show w.heap.size ≤ R ∧ w.heap.size ≤ S by omega)
  have GC := Lib.hid hgc
  have c0 : W1.cell? ⟨S, 0, none⟩ = some (.slice (some ⟨g, 0, none⟩) 8 c) := cell_of_row W1 S 0 _ 87 (0, 0) s1
  have I1 := Lib.hid hi
  have J1 := Lib.hid hj
  have HM := Lib.hid hm
  clear h hn hr hS hR hW1 s1 hgc hk8 hi hj hm
  go_enter Tryz.func58, Tryz.ntmps58
  go_upto_region 1 with fail
  rw [← HW1.out, ← HR_.out, ← HS.out]
  go_upto_region 4 with fail
  obtain ⟨w4, hw4⟩ : ∃ u, u = W1.drew := ⟨_, rfl⟩
  have HD4 := Lib.hid hw4.symm
  have S4 := Lib.hid (show w4.heap[S]? = some (.cells #[.slice (some ⟨g, 0, none⟩) 8 c, .slice A2 n.vals.length c2, .slice A3 n.kids.length c3] 87 (0, 0)) by rw [hw4]; exact S1.out)
  have R4 := Lib.hid (show w4.heap[R]? = some (.cells L89 89 (0, 0)) by rw [hw4]; exact R1.out)
  have B4 := Lib.hid (show Below w.heap.size w w4 by rw [hw4]; exact B1.out.drew)
  obtain ⟨X, hX⟩ : ∃ S, S = w4.heap.size := ⟨_, rfl⟩
  obtain ⟨Y, hY⟩ : ∃ S, S = w4.heap.size + 1 := ⟨_, rfl⟩
  obtain ⟨U1, hU1⟩ : ∃ W, W = w4.alloc (.cells #[nilS, nilS, nilS] 87) := ⟨_, rfl⟩
  obtain ⟨U2, hU2⟩ : ∃ W, W = U1.alloc (.cells #[nilS, nilS, nilS] 87) := ⟨_, rfl⟩
  have x2 : U2.heap[X]? = some (.cells #[nilS, nilS, nilS] 87 (0, 0)) := by rw [hU2, hU1, hX]; exact heap_alloc2_old _ _ _
  have y2 : U2.heap[Y]? = some (.cells #[nilS, nilS, nilS] 87 (0, 0)) := by rw [hU2, hU1, hY]; exact heap_alloc2_new _ _ _
  have b1 : Below w4.heap.size w4 U1 := by rw [hU1]; exact (Below.refl _ _).alloc (Nat.le_refl _) _
  have b2 : Below w4.heap.size w4 U2 := by rw [hU2]; exact b1.alloc b1.size _
  have RA1 := Lib.hid (fun (ρ : Operand → Value) (o : Oper) (ho : o.op = .alloc 87) => by
    have h := run_alloc87 (ρ := ρ) ho w4
    rw [← hU1, ← hX] at h
    exact h)
  have RA2 := Lib.hid (fun (ρ : Operand → Value) (o : Oper) (ho : o.op = .alloc 87) => by
    have h := run_alloc87 (ρ := ρ) ho U1
    rw [← hU2, show U1.heap.size = Y by rw [hU1, hY]; simp] at h
    exact h)
  have S5 := Lib.hid ((b1.block S (row_lt S4.out)).trans S4.out)
  have S6 := Lib.hid ((b2.block S (row_lt S4.out)).trans S4.out)
  have R6 := Lib.hid ((b2.block R (row_lt R4.out)).trans R4.out)
  have B6 := Lib.hid (B4.out.trans (b2.mono B4.out.size))
  have X6 := Lib.hid x2
  have Y6 := Lib.hid y2
  have NE := Lib.hid (show S < w4.heap.size ∧ R < w4.heap.size ∧ S ≠ R ∧ w.heap.size ≤ w4.heap.size from ⟨row_lt S4.out, row_lt R4.out, fun e => cells_ne S4.out R4.out (by decide) e, B4.out.size⟩)
  have XG := Lib.hid (show X = w4.heap.size ∧ Y = w4.heap.size + 1 from ⟨hX, hY⟩)
  clear hw4 hX hY hU1 hU2 x2 y2 b1 b2 c0
  refine g_region (fun w' => w'.heap[S]? = some (.cells #[.slice (some ⟨g, 0, none⟩) 8 c, .slice A2 n.vals.length c2, .slice A3 n.kids.length c3] 87 (0, 0))) 12 rfl (by kernel_rfl) ?_
  rw [HD4.out]
  refine g_take 0 rfl (some 26) rfl (by kernel_rfl) (by kernel_rfl) (by kernel_rfl) (fun _ _ _ h => h) rfl (fun w' hw' => run_fld87_0 (x := .tmp 3) (d := S) rfl rfl w') S4.out ?_
  simp only [Act.put, List.setIfInBounds_toArray, List.set_cons_succ, List.set_cons_zero]
  refine g_take 1 rfl (some 27) rfl (by kernel_rfl) (by kernel_rfl) (by kernel_rfl) (fun _ _ _ h => h) rfl (fun w' hw' => run_load_slice Tryz.underlying33 (x := .tmp 26) (a := ⟨S, 0, none⟩) rfl rfl (cell_of_row w' S 0 _ 87 (0, 0) hw')) S4.out ?_
  simp only [Act.put, List.setIfInBounds_toArray, List.set_cons_succ, List.set_cons_zero]
  refine g_take 2 rfl (some 28) rfl (by kernel_rfl) (by kernel_rfl) (by kernel_rfl) (fun _ _ _ h => h) rfl (fun w' hw' => run_hi33_4 (x := .tmp 27) (n := 8) (c := c) rfl rfl rfl (by have := GC.out; omega) w') S4.out ?_
  simp only [Act.put, List.setIfInBounds_toArray, List.set_cons_succ, List.set_cons_zero]
  refine g_take 3 rfl (some 29) rfl (by kernel_rfl) (by kernel_rfl) (by kernel_rfl) (fun _ _ _ h => h) rfl (fun w' hw' => run_build87 (x := .tmp 28) (n := 4) (c := c) rfl rfl w') S4.out ?_
  simp only [Act.put, List.setIfInBounds_toArray, List.set_cons_succ, List.set_cons_zero]
  refine g_take 4 rfl (some 30) rfl (by kernel_rfl) (by kernel_rfl) (by kernel_rfl) (fun _ _ _ h => h) rfl (fun w' hw' => run_fld87_0 (x := .tmp 3) (d := S) rfl rfl w') S4.out ?_
  simp only [Act.put, List.setIfInBounds_toArray, List.set_cons_succ, List.set_cons_zero]
  refine g_take 5 rfl (some 31) rfl (by kernel_rfl) (by kernel_rfl) (by kernel_rfl) (fun _ _ _ h => h) rfl (fun w' hw' => run_load_slice Tryz.underlying33 (x := .tmp 30) (a := ⟨S, 0, none⟩) rfl rfl (cell_of_row w' S 0 _ 87 (0, 0) hw')) S4.out ?_
  simp only [Act.put, List.setIfInBounds_toArray, List.set_cons_succ, List.set_cons_zero]
  refine g_take 6 rfl (some 32) rfl (by kernel_rfl) (by kernel_rfl) (by kernel_rfl) (fun _ _ _ h => h) rfl (fun w' hw' => run_lo33_4 (x := .tmp 31) (n := 8) (c := c) rfl rfl rfl (by omega) (by have := GC.out; omega) w') S4.out ?_
  simp only [Act.put, List.setIfInBounds_toArray, List.set_cons_succ, List.set_cons_zero]
  refine g_take 7 rfl (some 33) rfl (by kernel_rfl) (by kernel_rfl) (by kernel_rfl) (fun _ _ _ h => h) rfl (fun w' hw' => run_build87 (x := .tmp 32) (n := 4) (c := c - 4) rfl rfl w') S4.out ?_
  simp only [Act.put, List.setIfInBounds_toArray, List.set_cons_succ, List.set_cons_zero]
  refine g_two 8 9 (by kernel_rfl) ?_ ?_
  refine g_val rfl (some 8) rfl rfl (RA1.out _ _ rfl) S5.out ?_
  simp only [Act.put, List.setIfInBounds_toArray, List.set_cons_succ, List.set_cons_zero]
  refine g_one 9 (by kernel_rfl) ?_
  refine g_val rfl (some 9) rfl rfl (RA2.out _ _ rfl) S6.out ?_
  simp only [Act.put, List.setIfInBounds_toArray, List.set_cons_succ, List.set_cons_zero]
  obtain ⟨qA, hqA⟩ : ∃ q, q = X := ⟨_, rfl⟩
  obtain ⟨qB, hqB⟩ : ∃ q, q = Y := ⟨_, rfl⟩
  have QA := Lib.hid (show U2.heap[qA]? = some (.cells #[nilS, nilS, nilS] 87 (0, 0)) by rw [hqA]; exact X6.out)
  have QB := Lib.hid (show U2.heap[qB]? = some (.cells #[nilS, nilS, nilS] 87 (0, 0)) by rw [hqB]; exact Y6.out)
  have QN := Lib.hid (show qA ≠ qB ∧ w4.heap.size ≤ qA ∧ w4.heap.size ≤ qB by have := XG.out; omega)
  rw [← hqA, ← hqB]
  clear hqA hqB
  rotate_left
  refine g_val rfl (some 9) rfl rfl (RA1.out _ _ rfl) S5.out ?_
  simp only [Act.put, List.setIfInBounds_toArray, List.set_cons_succ, List.set_cons_zero]
  refine g_one 8 (by kernel_rfl) ?_
  refine g_val rfl (some 8) rfl rfl (RA2.out _ _ rfl) S6.out ?_
  simp only [Act.put, List.setIfInBounds_toArray, List.set_cons_succ, List.set_cons_zero]
  obtain ⟨qA, hqA⟩ : ∃ q, q = Y := ⟨_, rfl⟩
  obtain ⟨qB, hqB⟩ : ∃ q, q = X := ⟨_, rfl⟩
  have QA := Lib.hid (show U2.heap[qA]? = some (.cells #[nilS, nilS, nilS] 87 (0, 0)) by rw [hqA]; exact Y6.out)
  have QB := Lib.hid (show U2.heap[qB]? = some (.cells #[nilS, nilS, nilS] 87 (0, 0)) by rw [hqB]; exact X6.out)
  have QN := Lib.hid (show qA ≠ qB ∧ w4.heap.size ≤ qA ∧ w4.heap.size ≤ qB by have := XG.out; omega)
  rw [← hqA, ← hqB]
  clear hqA hqB
  all_goals
    clear X6 Y6 RA1 RA2 XG S5
    refine g_one 10 (by kernel_rfl) ?_
    obtain ⟨U3, hU3⟩ : ∃ W, W = U2.setRow qA #[.slice (some ⟨g, 0, none⟩) 4 c, nilS, nilS] := ⟨_, rfl⟩
    obtain ⟨U4, hU4⟩ : ∃ W, W = U3.setRow qB #[.slice (some ⟨g, 4, none⟩) 4 (c - 4), nilS, nilS] := ⟨_, rfl⟩
    have o3 : ∀ q, q ≠ qA → U3.heap[q]? = U2.heap[q]? := fun q hq => by rw [hU3]; exact setRow_other _ _ _ _ hq
    have o4 : ∀ q, q ≠ qB → U4.heap[q]? = U3.heap[q]? := fun q hq => by rw [hU4]; exact setRow_other _ _ _ _ hq
    have qn := QN.out
    have ne := NE.out
    have B3 := Lib.hid ((o3 qB (fun e => qn.1 e.symm)).trans QB.out)
    have a3 : U3.heap[qA]? = some (.cells #[.slice (some ⟨g, 0, none⟩) 4 c, nilS, nilS] 87 (0, 0)) := by rw [hU3]; exact setRow_has QA.out
    have A4 := Lib.hid ((o4 qA qn.1).trans a3)
    have Q4 := Lib.hid (show U4.heap[qB]? = some (.cells #[.slice (some ⟨g, 4, none⟩) 4 (c - 4), nilS, nilS] 87 (0, 0)) by rw [hU4]; exact setRow_has B3.out)
    have S7 := Lib.hid ((o3 S (by omega)).trans S6.out)
    have S8 := Lib.hid ((o4 S (by omega)).trans S7.out)
    have R8 := Lib.hid ((o4 R (by omega)).trans ((o3 R (by omega)).trans R6.out))
    have B8 := Lib.hid (show Below w.heap.size w U4 by rw [hU4, hU3]; exact below_setRow (below_setRow B6.out (by omega) _) (by omega) _)
    have HU3 := Lib.hid hU3.symm
    have HU4 := Lib.hid hU4.symm
    clear hU3 hU4 o3 o4 a3 qn ne
    refine g_skp (w' := U3) rfl rfl rfl (by rw [← HU3.out]; exact run_store_row87 (x := .tmp 8) (y := .tmp 29) rfl rfl rfl QA.out (by simp [Value.oneCell'])) S7.out ?_
    refine g_one 11 (by kernel_rfl) ?_
    refine g_skp (w' := U4) rfl rfl rfl (by rw [← HU4.out]; exact run_store_row87 (x := .tmp 9) (y := .tmp 33) rfl rfl rfl B3.out (by simp [Value.oneCell'])) S8.out ?_
    refine g_done (by kernel_rfl) ?_
    go_upto_region 5 with fail
    refine wp_region_lit ?_
    refine l_is (.load 87 (.tmp 3)) rfl rfl (run_ld_node (x := .tmp 3) rfl rfl S8.out) ?_
    go_wp2_with fail
    refine (LEAF.out _ B8.out).mono ?_
    rintro e w5 ⟨rfl, hb5⟩
    have A5 := Lib.hid ((hb5.block qA (row_lt A4.out)).trans A4.out)
    have Q5 := Lib.hid ((hb5.block qB (row_lt Q4.out)).trans Q4.out)
    have S9 := Lib.hid ((hb5.block S (row_lt S8.out)).trans S8.out)
    have R9 := Lib.hid ((hb5.block R (row_lt R8.out)).trans R8.out)
    have B9 := Lib.hid (B8.out.trans (hb5.mono B8.out.size))
    clear hb5
    have N9 := Lib.hid ((HN.out.below B9.out))
    have K9 := Lib.hid (RowAt.own N9.out.keys)
    rcases HR.out.shape with ⟨hk, hv, hv12⟩ | ⟨hv, hkl, hkr, hkn⟩
    · have hz : n.kids.length = 0 := by rw [hk]; rfl
      obtain ⟨g2, c2', e2, hgc2⟩ := own_cap HN.out.vals (by omega)
      injection e2 with e2a e2b e2c
      subst e2a e2c
      rw [hv] at S9 hgc2 ⊢
      have GX := Lib.hid hgc2
      have V9 := Lib.hid (RowAt.own N9.out.vals)
      rw [hv] at V9
      rw [hz, decide_eq_true rfl]
      have SPL := Lib.hid (show splitA n = ⟨n.keys.take 4, n.vals.take 4, []⟩ ∧ splitB n = ⟨n.keys.drop 4, n.vals.drop 4, []⟩ by unfold splitA splitB; rw [if_pos hz, if_pos hz]; exact ⟨rfl, rfl⟩)
      have VL := Lib.hid hv
      clear hk hv hv12 hz hgc2
      have AX := A5
      have QX := Q5
      have SX := S9
      have RX := R9
      have BX := B9
      go_upto_region 6 with fail
      obtain ⟨w6, hw6⟩ : ∃ u, u = w5.drew := ⟨_, rfl⟩
      have HD6 := Lib.hid hw6.symm
      have S10 := Lib.hid (show w6.heap[S]? = some (.cells #[.slice (some ⟨g, 0, none⟩) 8 c, .slice (some ⟨g2, 0, none⟩) 8 c2, .slice A3 n.kids.length c3] 87 (0, 0)) by rw [hw6]; exact SX.out)
      have R10 := Lib.hid (show w6.heap[R]? = some (.cells L89 89 (0, 0)) by rw [hw6]; exact RX.out)
      have A10 := Lib.hid (show w6.heap[qA]? = some (.cells #[.slice (some ⟨g, 0, none⟩) 4 c, nilS, nilS] 87 (0, 0)) by rw [hw6]; exact AX.out)
      have Q10 := Lib.hid (show w6.heap[qB]? = some (.cells #[.slice (some ⟨g, 4, none⟩) 4 (c - 4), nilS, nilS] 87 (0, 0)) by rw [hw6]; exact QX.out)
      have B10 := Lib.hid (show Below w.heap.size w w6 by rw [hw6]; exact BX.out.drew)
      obtain ⟨U5, hU5⟩ : ∃ W, W = w6.setCell ⟨qA, 1, none⟩ (.slice (some ⟨g2, 0, none⟩) 4 c2) := ⟨_, rfl⟩
      obtain ⟨U6, hU6⟩ : ∃ W, W = U5.setCell ⟨qB, 1, none⟩ (.slice (some ⟨g2, 4, none⟩) (8 - 4) (c2 - 4)) := ⟨_, rfl⟩
      have qn := QN.out
      have ne := NE.out
      have o5 : ∀ q, q ≠ qA → U5.heap[q]? = w6.heap[q]? := fun q hq => by rw [hU5]; exact Below.heap_setCell _ _ _ _ hq
      have o6 : ∀ q, q ≠ qB → U6.heap[q]? = U5.heap[q]? := fun q hq => by rw [hU6]; exact Below.heap_setCell _ _ _ _ hq
      have a5 := heap_setCell_row A10.out (j := 1) (.slice (some ⟨g2, 0, none⟩) 4 c2)
      rw [← hU5] at a5
      have Q11 := Lib.hid ((o5 qB (fun e => qn.1 e.symm)).trans Q10.out)
      have q6 := heap_setCell_row Q11.out (j := 1) (.slice (some ⟨g2, 4, none⟩) (8 - 4) (c2 - 4))
      rw [← hU6] at q6
      have A12 := Lib.hid ((o6 qA qn.1).trans a5)
      have Q12 := Lib.hid q6
      have S11 := Lib.hid ((o5 S (by omega)).trans S10.out)
      have S12 := Lib.hid ((o6 S (by omega)).trans S11.out)
      have R12 := Lib.hid ((o6 R (by omega)).trans ((o5 R (by omega)).trans R10.out))
      have B12 := Lib.hid (show Below w.heap.size w U6 by rw [hU6, hU5]; exact (B10.out.setCell (p := ⟨qA, 1, none⟩) (by show w.heap.size ≤ qA; omega) _).setCell (p := ⟨qB, 1, none⟩) (by show w.heap.size ≤ qB; omega) _)
      have KP := Lib.hid (show ∀ q, q ≠ qA → q ≠ qB → U6.heap[q]? = w5.heap[q]? from fun q h1 h2 => ((o6 q h2).trans (o5 q h1)).trans (by rw [hw6]; rfl))
      have HU5 := Lib.hid hU5.symm
      have HU6 := Lib.hid hU6.symm
      clear hw6 hU5 hU6 o5 o6 a5 q6 qn ne
      refine g_region (fun w' => w'.heap[S]? = some (.cells #[.slice (some ⟨g, 0, none⟩) 8 c, .slice (some ⟨g2, 0, none⟩) 8 c2, .slice A3 n.kids.length c3] 87 (0, 0))) 10 rfl (by kernel_rfl) ?_
      rw [HD6.out]
      refine g_take 0 rfl (some 36) rfl (by kernel_rfl) (by kernel_rfl) (by kernel_rfl) (fun _ _ _ h => h) rfl (fun w' hw' => run_fld87_1 (x := .tmp 3) (d := S) rfl rfl w') S10.out ?_
      simp only [Act.put, List.setIfInBounds_toArray, List.set_cons_succ, List.set_cons_zero]
      refine g_take 1 rfl (some 37) rfl (by kernel_rfl) (by kernel_rfl) (by kernel_rfl) (fun _ _ _ h => h) rfl (fun w' hw' => run_load_slice (t := 85) Tryz.underlying85 (x := .tmp 36) (a := ⟨S, 1, none⟩) (v := .slice (some ⟨g2, 0, none⟩) 8 c2) rfl rfl (cell_of_row w' S 1 _ 87 (0, 0) hw')) S10.out ?_
      simp only [Act.put, List.setIfInBounds_toArray, List.set_cons_succ, List.set_cons_zero]
      refine g_take 2 rfl (some 38) rfl (by kernel_rfl) (by kernel_rfl) (by kernel_rfl) (fun _ _ _ h => h) rfl (fun w' hw' => run_hi85_4 (x := .tmp 37) (n := 8) (c := c2) rfl rfl rfl (by have := GX.out; omega) w') S10.out ?_
      simp only [Act.put, List.setIfInBounds_toArray, List.set_cons_succ, List.set_cons_zero]
      refine g_take 3 rfl (some 39) rfl (by kernel_rfl) (by kernel_rfl) (by kernel_rfl) (fun _ _ _ h => h) rfl (fun w' hw' => run_fld87_1 (x := .tmp 3) (d := S) rfl rfl w') S10.out ?_
      simp only [Act.put, List.setIfInBounds_toArray, List.set_cons_succ, List.set_cons_zero]
      refine g_take 4 rfl (some 40) rfl (by kernel_rfl) (by kernel_rfl) (by kernel_rfl) (fun _ _ _ h => h) rfl (fun w' hw' => run_load_slice (t := 85) Tryz.underlying85 (x := .tmp 39) (a := ⟨S, 1, none⟩) (v := .slice (some ⟨g2, 0, none⟩) 8 c2) rfl rfl (cell_of_row w' S 1 _ 87 (0, 0) hw')) S10.out ?_
      simp only [Act.put, List.setIfInBounds_toArray, List.set_cons_succ, List.set_cons_zero]
      refine g_take 5 rfl (some 41) rfl (by kernel_rfl) (by kernel_rfl) (by kernel_rfl) (fun _ _ _ h => h) rfl (fun w' hw' => run_lo85_4 (x := .tmp 40) (n := 8) (c := c2) rfl rfl rfl (by omega) (by have := GX.out; omega) w') S10.out ?_
      simp only [Act.put, List.setIfInBounds_toArray, List.set_cons_succ, List.set_cons_zero]
      refine g_take 6 rfl (some 42) rfl (by kernel_rfl) (by kernel_rfl) (by kernel_rfl) (fun _ _ _ h => h) rfl (fun w' hw' => run_fld87_1 (x := .tmp 8) (d := qA) rfl rfl w') S10.out ?_
      simp only [Act.put, List.setIfInBounds_toArray, List.set_cons_succ, List.set_cons_zero]
      refine g_one 7 (by kernel_rfl) ?_
      refine g_skp (w' := U5) rfl rfl rfl (by rw [← HU5.out]; exact run_store_slc size85 (x := .tmp 42) (y := .tmp 38) (d := qA) (j := 1) rfl rfl rfl A10.out (by simp)) S11.out ?_
      refine g_take 8 rfl (some 43) rfl (by kernel_rfl) (by kernel_rfl) (by kernel_rfl) (fun _ _ _ h => h) rfl (fun w' hw' => run_fld87_1 (x := .tmp 9) (d := qB) rfl rfl w') S11.out ?_
      simp only [Act.put, List.setIfInBounds_toArray, List.set_cons_succ, List.set_cons_zero]
      refine g_one 9 (by kernel_rfl) ?_
      refine g_skp (w' := U6) rfl rfl rfl (by rw [← HU6.out]; exact run_store_slc size85 (x := .tmp 43) (y := .tmp 41) (d := qB) (j := 1) rfl rfl rfl Q11.out (by simp)) S12.out ?_
      refine g_done (by kernel_rfl) ?_
      have KF := Lib.hid (K9.out.moved (fun q cs hq => KP.out q (fun e => cells_ne hq A5.out (by decide) e) (fun e => cells_ne hq Q5.out (by decide) e)))
      have VF := Lib.hid (V9.out.moved (fun q cs hq => KP.out q (fun e => cells_ne hq A5.out (by decide) e) (fun e => cells_ne hq Q5.out (by decide) e)))
      have NA := Lib.hid (show NAt U6 (.agg #[.slice (some ⟨g, 0, none⟩) 4 c, .slice (some ⟨g2, 0, none⟩) 4 c2, nilS]) (splitA n) by
        rw [SPL.out.1]
        exact ⟨_, _, _, rfl, by rw [ints_take]; exact row_hi KF.out 4 (by rw [ints_length, K8.out]; omega), by rw [strs_take]; exact row_hi VF.out 4 (by rw [strs_length, VL.out]; omega), RowAt.nil _ _ _ _⟩)
      have NB := Lib.hid (show NAt U6 (.agg #[.slice (some ⟨g, 4, none⟩) 4 (c - 4), .slice (some ⟨g2, 4, none⟩) (8 - 4) (c2 - 4), nilS]) (splitB n) by
        rw [SPL.out.2]
        have r1 := row_lo KF.out 4 (c - 4) (by rw [ints_length, K8.out]; omega)
        rw [ints_length, K8.out] at r1
        have r2 := row_lo VF.out 4 (c2 - 4) (by rw [strs_length, VL.out]; omega)
        rw [strs_length, VL.out] at r2
        exact ⟨_, _, _, rfl, by rw [ints_drop]; exact r1, by rw [strs_drop]; exact r2, RowAt.nil _ _ _ _⟩)
      have ST := Lib.hid (tstore_any (HP.out.below B12.out) _ (splitA n) NA.out RA.out (by have := HM.out; omega) i I1.out)
      clear KP
      go_upto_region 10 with (first | (go_at_call 27; refine ST.out.mono ?_; rintro e w10 ⟨rfl, hp, hk⟩; have P10 := Lib.hid hp; have K10 := Lib.hid ((KT.of_below B12.out B isPg).trans hk); have R13 := Lib.hid (hk.cells R12.out rfl); have S13 := Lib.hid (hk.cells S12.out rfl); have Q13 := Lib.hid (hk.cells Q12.out rfl); have NB13 := Lib.hid (NB.out.kt hk); have KF13 := Lib.hid (KF.out.kt hk rfl); clear hp hk) | (refine l_is (.load 87 (.tmp 8)) rfl rfl (run_ld_node (x := .tmp 8) rfl rfl A12.out) ?_))
      have ST2 := Lib.hid (tstore_any P10.out _ (splitB n) NB13.out RB.out HM.out j J1.out)
      go_upto_region 13 with (first | (go_at_call 27; refine ST2.out.mono ?_; rintro e w11 ⟨rfl, hp, hk⟩; have P11 := Lib.hid hp; have K11 := Lib.hid (K10.out.trans hk); have R14 := Lib.hid (hk.cells R13.out rfl); have S14 := Lib.hid (hk.cells S13.out rfl); have KF14 := Lib.hid (KF13.out.kt hk rfl); clear hp hk) | (refine l_is (.load 87 (.tmp 9)) rfl rfl (run_ld_node (x := .tmp 9) rfl rfl Q13.out) ?_))
      have s14 := cell_of_row w11 S 0 _ 87 (0, 0) S14.out
      have k14 : w11.cell? ⟨g, 4, none⟩ = some (.int .i64 ((n.keys.getD 4 0 : Nat) : Int)) := by
        obtain ⟨g', o', e, hc, _⟩ := KF14.out.at.2 4 _ (ints_at (l := n.keys) (by rw [K8.out]; omega))
        injection e with e
        injection e with ea eb _
        subst ea eb
        rw [Nat.zero_add] at hc
        rw [hc, List.getD_eq_getElem?_getD, List.getElem?_eq_getElem (by rw [K8.out]; omega)]
        rfl
      obtain ⟨k4, hk4⟩ : ∃ k, k = n.keys.getD 4 0 := ⟨_, rfl⟩
      rw [← hk4] at k14
      have HK4 := Lib.hid hk4
      simp only [List.getElem?_toArray, List.getElem?_cons_zero] at s14
      clear hk4
      go_wp2_with (refine wpList_store_row rfl 89 (.tmp 4) (.tmp 78) rfl R (gv i j k4 true) rfl rfl 89 L89 R14.out size89 rfl (gv_one _ _ _ _) ?_)
      exact bodyPost_ret (results_grown rfl _ _ R .nilIface rfl (setRow_has R14.out) rfl rfl) rfl ⟨by rw [← HK4.out], P11.out.setRow R14.out rfl _, K11.out.setRow_new RG.out.1 _⟩
    · have hz : ¬ n.kids.length = 0 := by omega
      obtain ⟨g3, c3', e3, hgc3⟩ := own_cap HN.out.kids (by omega)
      injection e3 with e3a e3b e3c
      subst e3a e3c
      rw [hkl] at S9 hgc3 ⊢
      have GX := Lib.hid hgc3
      have C9 := Lib.hid (RowAt.own N9.out.kids)
      rw [hkl] at C9
      rw [decide_eq_false (show ¬ (9 : Nat) = 0 by omega)]
      have SPL := Lib.hid (show splitA n = ⟨n.keys.take 4, [], n.kids.take 5⟩ ∧ splitB n = ⟨n.keys.drop 5, [], n.kids.drop 5⟩ by unfold splitA splitB; rw [if_neg hz, if_neg hz]; exact ⟨rfl, rfl⟩)
      have VL := Lib.hid hkl
      obtain ⟨wx, hwx⟩ : ∃ u, u = w5.setCell ⟨qB, 0, none⟩ (.slice (some ⟨g, 5, none⟩) (8 - 5) (c - 5)) := ⟨_, rfl⟩
      have ox : ∀ q, q ≠ qB → wx.heap[q]? = w5.heap[q]? := fun q hq => by rw [hwx]; exact Below.heap_setCell _ _ _ _ hq
      have qx := heap_setCell_row Q5.out (j := 0) (.slice (some ⟨g, 5, none⟩) (8 - 5) (c - 5))
      rw [← hwx] at qx
      have qn := QN.out
      have ne := NE.out
      have QX := Lib.hid (show wx.heap[qB]? = some (.cells #[.slice (some ⟨g, 5, none⟩) (8 - 5) (c - 5), nilS, nilS] 87 (0, 0)) from qx)
      have AX := Lib.hid ((ox qA qn.1).trans A5.out)
      have SX := Lib.hid ((ox S (by omega)).trans S9.out)
      have RX := Lib.hid ((ox R (by omega)).trans R9.out)
      have BX := Lib.hid (show Below w.heap.size w wx by rw [hwx]; exact B9.out.setCell (p := ⟨qB, 0, none⟩) (by show w.heap.size ≤ qB; omega) _)
      have OX := Lib.hid (show ∀ q, q ≠ qB → wx.heap[q]? = w5.heap[q]? from ox)
      have c5 : w5.cell? ⟨S, 0, none⟩ = some (.slice (some ⟨g, 0, none⟩) 8 c) := cell_of_row w5 S 0 _ 87 (0, 0) S9.out
      have HWX := Lib.hid hwx.symm
      clear hv hkl hkr hkn hz hgc3 hwx ox qx qn ne
      go_upto_region 8 with (first | (refine l_is (.slice 33 (.tmp 45) (some (.const (.int .i64 5))) none none) rfl rfl (run_lo33_5 (x := .tmp 45) (n := 8) (c := c) rfl rfl rfl (by omega) (by have := GC.out; omega) _) ?_) | (refine wpList_store_slc size33 rfl (.tmp 47) rfl rfl (d := qB) (j := 0) (A := some ⟨g, 5, none⟩) (n := 8 - 5) (c := c - 5) rfl rfl Q5.out (by simp) ?_; rw [HWX.out]))
      clear c5
      obtain ⟨w6, hw6⟩ : ∃ u, u = wx.drew := ⟨_, rfl⟩
      have HD6 := Lib.hid hw6.symm
      have S10 := Lib.hid (show w6.heap[S]? = some (.cells #[.slice (some ⟨g, 0, none⟩) 8 c, .slice A2 n.vals.length c2, .slice (some ⟨g3, 0, none⟩) 9 c3] 87 (0, 0)) by rw [hw6]; exact SX.out)
      have R10 := Lib.hid (show w6.heap[R]? = some (.cells L89 89 (0, 0)) by rw [hw6]; exact RX.out)
      have A10 := Lib.hid (show w6.heap[qA]? = some (.cells #[.slice (some ⟨g, 0, none⟩) 4 c, nilS, nilS] 87 (0, 0)) by rw [hw6]; exact AX.out)
      have Q10 := Lib.hid (show w6.heap[qB]? = some (.cells #[.slice (some ⟨g, 5, none⟩) (8 - 5) (c - 5), nilS, nilS] 87 (0, 0)) by rw [hw6]; exact QX.out)
      have B10 := Lib.hid (show Below w.heap.size w w6 by rw [hw6]; exact BX.out.drew)
      obtain ⟨U5, hU5⟩ : ∃ W, W = w6.setCell ⟨qA, 2, none⟩ (.slice (some ⟨g3, 0, none⟩) 5 c3) := ⟨_, rfl⟩
      obtain ⟨U6, hU6⟩ : ∃ W, W = U5.setCell ⟨qB, 2, none⟩ (.slice (some ⟨g3, 5, none⟩) (9 - 5) (c3 - 5)) := ⟨_, rfl⟩
      have qn := QN.out
      have ne := NE.out
      have o5 : ∀ q, q ≠ qA → U5.heap[q]? = w6.heap[q]? := fun q hq => by rw [hU5]; exact Below.heap_setCell _ _ _ _ hq
      have o6 : ∀ q, q ≠ qB → U6.heap[q]? = U5.heap[q]? := fun q hq => by rw [hU6]; exact Below.heap_setCell _ _ _ _ hq
      have a5 := heap_setCell_row A10.out (j := 2) (.slice (some ⟨g3, 0, none⟩) 5 c3)
      rw [← hU5] at a5
      have Q11 := Lib.hid ((o5 qB (fun e => qn.1 e.symm)).trans Q10.out)
      have q6 := heap_setCell_row Q11.out (j := 2) (.slice (some ⟨g3, 5, none⟩) (9 - 5) (c3 - 5))
      rw [← hU6] at q6
      have A12 := Lib.hid ((o6 qA qn.1).trans a5)
      have Q12 := Lib.hid q6
      have S11 := Lib.hid ((o5 S (by omega)).trans S10.out)
      have S12 := Lib.hid ((o6 S (by omega)).trans S11.out)
      have R12 := Lib.hid ((o6 R (by omega)).trans ((o5 R (by omega)).trans R10.out))
      have B12 := Lib.hid (show Below w.heap.size w U6 by rw [hU6, hU5]; exact (B10.out.setCell (p := ⟨qA, 2, none⟩) (by show w.heap.size ≤ qA; omega) _).setCell (p := ⟨qB, 2, none⟩) (by show w.heap.size ≤ qB; omega) _)
      have KP := Lib.hid (show ∀ q, q ≠ qA → q ≠ qB → U6.heap[q]? = wx.heap[q]? from fun q h1 h2 => ((o6 q h2).trans (o5 q h1)).trans (by rw [hw6]; rfl))
      have HU5 := Lib.hid hU5.symm
      have HU6 := Lib.hid hU6.symm
      clear hw6 hU5 hU6 o5 o6 a5 q6 qn ne
      refine g_region (fun w' => w'.heap[S]? = some (.cells #[.slice (some ⟨g, 0, none⟩) 8 c, .slice A2 n.vals.length c2, .slice (some ⟨g3, 0, none⟩) 9 c3] 87 (0, 0))) 10 rfl (by kernel_rfl) ?_
      rw [HD6.out]
      refine g_take 0 rfl (some 48) rfl (by kernel_rfl) (by kernel_rfl) (by kernel_rfl) (fun _ _ _ h => h) rfl (fun w' hw' => run_fld87_2 (x := .tmp 3) (d := S) rfl rfl w') S10.out ?_
      simp only [Act.put, List.setIfInBounds_toArray, List.set_cons_succ, List.set_cons_zero]
      refine g_take 1 rfl (some 49) rfl (by kernel_rfl) (by kernel_rfl) (by kernel_rfl) (fun _ _ _ h => h) rfl (fun w' hw' => run_load_slice (t := 33) Tryz.underlying33 (x := .tmp 48) (a := ⟨S, 2, none⟩) (v := .slice (some ⟨g3, 0, none⟩) 9 c3) rfl rfl (cell_of_row w' S 2 _ 87 (0, 0) hw')) S10.out ?_
      simp only [Act.put, List.setIfInBounds_toArray, List.set_cons_succ, List.set_cons_zero]
      refine g_take 2 rfl (some 50) rfl (by kernel_rfl) (by kernel_rfl) (by kernel_rfl) (fun _ _ _ h => h) rfl (fun w' hw' => run_hi33_5 (x := .tmp 49) (n := 9) (c := c3) rfl rfl rfl (by have := GX.out; omega) w') S10.out ?_
      simp only [Act.put, List.setIfInBounds_toArray, List.set_cons_succ, List.set_cons_zero]
      refine g_take 3 rfl (some 51) rfl (by kernel_rfl) (by kernel_rfl) (by kernel_rfl) (fun _ _ _ h => h) rfl (fun w' hw' => run_fld87_2 (x := .tmp 3) (d := S) rfl rfl w') S10.out ?_
      simp only [Act.put, List.setIfInBounds_toArray, List.set_cons_succ, List.set_cons_zero]
      refine g_take 4 rfl (some 52) rfl (by kernel_rfl) (by kernel_rfl) (by kernel_rfl) (fun _ _ _ h => h) rfl (fun w' hw' => run_load_slice (t := 33) Tryz.underlying33 (x := .tmp 51) (a := ⟨S, 2, none⟩) (v := .slice (some ⟨g3, 0, none⟩) 9 c3) rfl rfl (cell_of_row w' S 2 _ 87 (0, 0) hw')) S10.out ?_
      simp only [Act.put, List.setIfInBounds_toArray, List.set_cons_succ, List.set_cons_zero]
      refine g_take 5 rfl (some 53) rfl (by kernel_rfl) (by kernel_rfl) (by kernel_rfl) (fun _ _ _ h => h) rfl (fun w' hw' => run_lo33_5 (x := .tmp 52) (n := 9) (c := c3) rfl rfl rfl (by omega) (by have := GX.out; omega) w') S10.out ?_
      simp only [Act.put, List.setIfInBounds_toArray, List.set_cons_succ, List.set_cons_zero]
      refine g_take 6 rfl (some 54) rfl (by kernel_rfl) (by kernel_rfl) (by kernel_rfl) (fun _ _ _ h => h) rfl (fun w' hw' => run_fld87_2 (x := .tmp 8) (d := qA) rfl rfl w') S10.out ?_
      simp only [Act.put, List.setIfInBounds_toArray, List.set_cons_succ, List.set_cons_zero]
      refine g_one 7 (by kernel_rfl) ?_
      refine g_skp (w' := U5) rfl rfl rfl (by rw [← HU5.out]; exact run_store_slc size33 (x := .tmp 54) (y := .tmp 50) (d := qA) (j := 2) rfl rfl rfl A10.out (by simp)) S11.out ?_
      refine g_take 8 rfl (some 55) rfl (by kernel_rfl) (by kernel_rfl) (by kernel_rfl) (fun _ _ _ h => h) rfl (fun w' hw' => run_fld87_2 (x := .tmp 9) (d := qB) rfl rfl w') S11.out ?_
      simp only [Act.put, List.setIfInBounds_toArray, List.set_cons_succ, List.set_cons_zero]
      refine g_one 9 (by kernel_rfl) ?_
      refine g_skp (w' := U6) rfl rfl rfl (by rw [← HU6.out]; exact run_store_slc size33 (x := .tmp 55) (y := .tmp 53) (d := qB) (j := 2) rfl rfl rfl Q11.out (by simp)) S12.out ?_
      refine g_done (by kernel_rfl) ?_
      have MV := Lib.hid (show ∀ (q : Nat) (cs : Array Value), w5.heap[q]? = some (Obj.cells cs 3 (0, 0)) → U6.heap[q]? = w5.heap[q]? from fun q cs hq => (KP.out q (fun e => cells_ne hq A5.out (by decide) e) (fun e => cells_ne hq Q5.out (by decide) e)).trans (OX.out q (fun e => cells_ne hq Q5.out (by decide) e)))
      have KF := Lib.hid (K9.out.moved MV.out)
      have VF := Lib.hid (C9.out.moved MV.out)
      have NA := Lib.hid (show NAt U6 (.agg #[.slice (some ⟨g, 0, none⟩) 4 c, nilS, .slice (some ⟨g3, 0, none⟩) 5 c3]) (splitA n) by
        rw [SPL.out.1]
        exact ⟨_, _, _, rfl, by rw [ints_take]; exact row_hi KF.out 4 (by rw [ints_length, K8.out]; omega), RowAt.nil _ _ _ _, by rw [ints_take]; exact row_hi VF.out 5 (by rw [ints_length, VL.out]; omega)⟩)
      have NB := Lib.hid (show NAt U6 (.agg #[.slice (some ⟨g, 5, none⟩) (8 - 5) (c - 5), nilS, .slice (some ⟨g3, 5, none⟩) (9 - 5) (c3 - 5)]) (splitB n) by
        rw [SPL.out.2]
        have r1 := row_lo KF.out 5 (c - 5) (by rw [ints_length, K8.out]; omega)
        rw [ints_length, K8.out] at r1
        have r2 := row_lo VF.out 5 (c3 - 5) (by rw [ints_length, VL.out]; omega)
        rw [ints_length, VL.out] at r2
        exact ⟨_, _, _, rfl, by rw [ints_drop]; exact r1, RowAt.nil _ _ _ _, by rw [ints_drop]; exact r2⟩)
      have ST := Lib.hid (tstore_any (HP.out.below B12.out) _ (splitA n) NA.out RA.out (by have := HM.out; omega) i I1.out)
      clear KP
      go_upto_region 10 with (first | (go_at_call 27; refine ST.out.mono ?_; rintro e w10 ⟨rfl, hp, hk⟩; have P10 := Lib.hid hp; have K10 := Lib.hid ((KT.of_below B12.out B isPg).trans hk); have R13 := Lib.hid (hk.cells R12.out rfl); have S13 := Lib.hid (hk.cells S12.out rfl); have Q13 := Lib.hid (hk.cells Q12.out rfl); have NB13 := Lib.hid (NB.out.kt hk); have KF13 := Lib.hid (KF.out.kt hk rfl); clear hp hk) | (refine l_is (.load 87 (.tmp 8)) rfl rfl (run_ld_node (x := .tmp 8) rfl rfl A12.out) ?_))
      have ST2 := Lib.hid (tstore_any P10.out _ (splitB n) NB13.out RB.out HM.out j J1.out)
      go_upto_region 13 with (first | (go_at_call 27; refine ST2.out.mono ?_; rintro e w11 ⟨rfl, hp, hk⟩; have P11 := Lib.hid hp; have K11 := Lib.hid (K10.out.trans hk); have R14 := Lib.hid (hk.cells R13.out rfl); have S14 := Lib.hid (hk.cells S13.out rfl); have KF14 := Lib.hid (KF13.out.kt hk rfl); clear hp hk) | (refine l_is (.load 87 (.tmp 9)) rfl rfl (run_ld_node (x := .tmp 9) rfl rfl Q13.out) ?_))
      have s14 := cell_of_row w11 S 0 _ 87 (0, 0) S14.out
      have k14 : w11.cell? ⟨g, 4, none⟩ = some (.int .i64 ((n.keys.getD 4 0 : Nat) : Int)) := by
        obtain ⟨g', o', e, hc, _⟩ := KF14.out.at.2 4 _ (ints_at (l := n.keys) (by rw [K8.out]; omega))
        injection e with e
        injection e with ea eb _
        subst ea eb
        rw [Nat.zero_add] at hc
        rw [hc, List.getD_eq_getElem?_getD, List.getElem?_eq_getElem (by rw [K8.out]; omega)]
        rfl
      obtain ⟨k4, hk4⟩ : ∃ k, k = n.keys.getD 4 0 := ⟨_, rfl⟩
      rw [← hk4] at k14
      have HK4 := Lib.hid hk4
      simp only [List.getElem?_toArray, List.getElem?_cons_zero] at s14
      clear hk4
      go_wp2_with (refine wpList_store_row rfl 89 (.tmp 4) (.tmp 78) rfl R (gv i j k4 true) rfl rfl 89 L89 R14.out size89 rfl (gv_one _ _ _ _) ?_)
      exact bodyPost_ret (results_grown rfl _ _ R .nilIface rfl (setRow_has R14.out) rfl rfl) rfl ⟨by rw [← HK4.out], P11.out.setRow R14.out rfl _, K11.out.setRow_new RG.out.1 _⟩
end Go.Proofs.YtnlolhlbpdmljaaGreatDoor
