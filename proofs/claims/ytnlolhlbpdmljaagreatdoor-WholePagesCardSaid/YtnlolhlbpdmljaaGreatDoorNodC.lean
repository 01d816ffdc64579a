/-
  node.kids, node.Right. node.Right.
  Conditions: none.
-/
import Derived.Test.YtnlolhlbpdmljaaGreatDoorMapA
import Derived.Carry
namespace Go.Proofs.YtnlolhlbpdmljaaGreatDoor
open Go.ChangeShapes Go.WideShapes Go.RowKit Go.Maps
set_option maxRecDepth 100000 in
set_option maxHeartbeats 1000000 in
theorem kids_any (w : World) (v : Value) (l : List Nat) (h : RowAt w 3 v (ints l)) (hr : ∀ k ∈ l, 2 ≤ k ∧ k < 240) (hn : l.Nodup) (h8 : l.length ≤ 8) : Calls Tryz.prog 112 #[v] w fun e w' => e = .returned (.bool true) ∧ Below w.heap.size w w' := by
  obtain ⟨A, c, rfl⟩ := h.shape
  have HH := Lib.hid h
  rw [ints_length]
  rw [ints_length] at HH
  have HR := Lib.hid hr
  have HN := Lib.hid hn
  have hmm := @run_makeMap Tryz.prog
  obtain ⟨M, hM⟩ : ∃ M, M = w.heap.size := ⟨_, rfl⟩
  obtain ⟨W1, hW1⟩ : ∃ W, W = w.alloc (.map #[] 0) := ⟨_, rfl⟩
  have M1 := Lib.hid (show MapS W1 M [] by rw [hW1, hM]; exact MapS.made w)
  have B1 := Lib.hid (show Below w.heap.size w W1 by rw [hW1]; exact (Below.refl _ _).alloc (Nat.le_refl _) _)
  have HM := Lib.hid hM
  have HW1 := Lib.hid hW1
  clear h hr hn hM hW1
  go_enter Tryz.func112, Tryz.ntmps112
  go_upto_region 2 with fail
  rw [← HW1.out, ← HM.out]
  go_wp2_with fail
  go_loopw [9] (fun i' wr => ∃ k : Nat, i' = .int .i64 k ∧ k ≤ l.length ∧ MapS wr M (l.take k) ∧ Below w.heap.size w wr) (fun i' _ => l.length - (RowKit.intOf i').toNat)
  case atStart => exact ⟨0, rfl, by omega, M1.out, B1.out⟩
  case round =>
    obtain ⟨k, rfl, hk, hm, hb⟩ := hrel
    have MM := Lib.hid hm
    have BB := Lib.hid hb
    by_cases hlt : k < l.length
    · obtain ⟨g, o, rfl, hck, _⟩ := (HH.out.below hb).at.2 k _ (ints_at hlt)
      obtain ⟨x, hx⟩ : ∃ x, x = l[k] := ⟨_, rfl⟩
      rw [← hx] at hck
      have hxr := HR.out x (by rw [hx]; exact List.getElem_mem _)
      have hnot : x ∉ l.take k := by
        intro hm
        obtain ⟨j, hj, e⟩ := List.mem_iff_getElem.1 hm
        rw [List.getElem_take] at e
        have hj2 : j < k := by rw [List.length_take] at hj; omega
        exact List.pairwise_iff_getElem.1 HN.out j k (by omega) hlt hj2 (e.trans hx)
      have hlook := hm.look (show x < 1000000 by omega)
      rw [decide_eq_false hnot] at hlook
      obtain ⟨w', hrun, hm', hg'⟩ := hm.put (show x < 1000000 by omega) hnot (by rw [List.length_take]; omega)
      have NM := Lib.hid (show MapS w' M (l.take (k + 1)) by
        have e : l.take (k + 1) = l.take k ++ [x] := by rw [List.take_add_one, List.getElem?_eq_getElem hlt, hx]; rfl
        rw [e]; exact hm')
      have NB := Lib.hid (show Below w.heap.size w w' from hb.grown hg' hb.size (fun q hq => by injection hq with hq; rw [← hq]; rw [HM.out]; exact Nat.le_refl _))
      have hx2 : ¬ (x : Int) < 2 := by omega
      have hx240 : ¬ (240 : Int) ≤ (x : Int) := by omega
      have HLT := Lib.hid hlt
      clear hm hb hx hxr hnot hm' hg'
      go_wp2
      go_roundw
      case rel => exact ⟨k + 1, by go_num, HLT.out, NM.out, NB.out⟩
      case measure => have := HLT.out; simp [RowKit.intOf]; omega
    · have hkl : k = l.length := by omega
      subst hkl
      clear hm hb
      go_wp2
      go_ret
      exact ⟨rfl, BB.out⟩
end Go.Proofs.YtnlolhlbpdmljaaGreatDoor
namespace Go.Proofs.YtnlolhlbpdmljaaGreatDoor
open Go.ChangeShapes Go.WideShapes Go.RowKit
set_option maxHeartbeats 400000 in
theorem is12_any (b : B8) (hb : b.length = 12) (w : World) : Calls Tryz.prog 111 #[.string (strB b)] w fun e w' => e = .returned (.bool false) ∧ w = w' := by
  have hs : (strB b).size = 12 := by rw [strB_size, hb]
  go_enter Tryz.func111, Tryz.ntmps111
  go_wp2
  go_ret
  exact ⟨rfl, rfl⟩
set_option maxRecDepth 100000 in
set_option maxHeartbeats 1000000 in
theorem idxf_any (w : World) (v : Value) (l : List B8) (h : RowAt w 9 v (strs l)) (hl : ∀ b ∈ l, b.length = 12) (h7 : l.length ≤ 7) : Calls Tryz.prog 126 #[v, .func (.func 111) #[] #[]] w fun e w' => e = .returned (.int .i64 (-1)) ∧ w = w' := by
  obtain ⟨A, c, rfl⟩ := h.shape
  have AT := Lib.hid h.at.2
  rw [strs_length]
  have HL := Lib.hid hl
  clear h hl
  go_enter Tryz.func126, Tryz.ntmps126
  go_wp2_with fail
  go_loopw [8] (fun i' wr => ∃ k : Nat, i' = .int .i64 k ∧ k ≤ l.length ∧ w = wr) (fun i' _ => l.length - (RowKit.intOf i').toNat)
  case atStart => exact ⟨0, rfl, by omega, rfl⟩
  case round =>
    obtain ⟨k, rfl, hk, rfl⟩ := hrel
    by_cases hlt : k < l.length
    · obtain ⟨g, o, rfl, hck, _⟩ := AT.out k _ (strs_at hlt)
      obtain ⟨x, hx⟩ : ∃ x, x = l[k] := ⟨_, rfl⟩
      rw [← hx] at hck
      have C := Lib.hid (is12_any x (by rw [hx]; exact HL.out _ (List.getElem_mem _)) w)
      have HLT := Lib.hid hlt
      clear hx
      go_wp2_with (go_at_call 111; refine C.out.mono ?_; rintro e w1 ⟨rfl, rfl⟩)
      go_roundw
      case rel => exact ⟨k + 1, by go_num, HLT.out, trivial⟩
      case measure => have := HLT.out; simp [RowKit.intOf]; omega
    · have hkl : k = l.length := by omega
      subst hkl
      go_wp2_with fail
      go_ret
      exact ⟨rfl, rfl⟩
set_option maxHeartbeats 400000 in
theorem contf_any (w : World) (v : Value) (l : List B8) (h : RowAt w 9 v (strs l)) (hl : ∀ b ∈ l, b.length = 12) (h7 : l.length ≤ 7) : Calls Tryz.prog 110 #[v, .func (.func 111) #[] #[]] w fun e w' => e = .returned (.bool false) ∧ w = w' := by
  have C := Lib.hid (idxf_any w v l h hl h7)
  clear h hl
  go_enter Tryz.func110, Tryz.ntmps110
  go_wp2_with fail
  refine C.out.mono ?_
  rintro e w1 ⟨rfl, rfl⟩
  go_wp2_with fail
  go_ret
  exact ⟨rfl, rfl⟩
set_option maxRecDepth 100000 in
set_option maxHeartbeats 1000000 in
theorem nright_any (w : World) (v : Value) (n : PN) (h : NAt w v n) (hr : NRight n) : Calls Tryz.prog 82 #[v] w fun e w' => e = .returned (.bool true) ∧ Below w.heap.size w w' := by
  obtain ⟨sK, sV, sC, rfl, h1, h2, h3⟩ := h
  obtain ⟨S, hS⟩ : ∃ S, S = w.heap.size := ⟨_, rfl⟩
  obtain ⟨W1, hW1⟩ : ∃ W, W = w.alloc (.cells #[sK, sV, sC] 87) := ⟨_, rfl⟩
  have b1 : Below w.heap.size w W1 := by rw [hW1]; exact (Below.refl _ _).alloc (Nat.le_refl _) _
  have s1 : W1.heap[S]? = some (.cells #[sK, sV, sC] 87 (0, 0)) := by rw [hW1, hS]; exact heap_alloc_new _ _
  have S1 := Lib.hid s1
  have B1 := Lib.hid b1
  have HS := Lib.hid hS
  have HW1 := Lib.hid hW1
  have K1 := Lib.hid (h1.below b1)
  have V1 := Lib.hid (h2.below b1)
  have C1 := Lib.hid (h3.below b1)
  have RISE := Lib.hid (rising_any W1 sK n.keys K1.out hr.keys)
  have HR := Lib.hid hr
  obtain ⟨A1, c1, e1⟩ := h1.shape
  obtain ⟨A2, c2, e2⟩ := h2.shape
  obtain ⟨A3, c3, e3⟩ := h3.shape
  rw [ints_length] at e1 e3
  rw [strs_length] at e2
  clear h1 h2 h3 hS hW1 b1 hr
  have LEAF := Lib.hid (leaf_any W1 (.agg #[sK, sV, sC]) n ⟨sK, sV, sC, rfl, K1.out, V1.out, C1.out⟩)
  have k0 : W1.cell? ⟨S, 0, none⟩ = some sK := cell_of_row W1 S 0 _ 87 (0, 0) s1
  have k1 : W1.cell? ⟨S, 1, none⟩ = some sV := cell_of_row W1 S 1 _ 87 (0, 0) s1
  have k2 : W1.cell? ⟨S, 2, none⟩ = some sC := cell_of_row W1 S 2 _ 87 (0, 0) s1
  clear s1
  subst e1 e2 e3
  go_enter Tryz.func82, Tryz.ntmps82
  go_upto_region 1 with fail
  rw [← HW1.out, ← HS.out]
  go_wp2_with fail
  refine RISE.out.mono ?_
  rintro e w2 ⟨rfl, rfl⟩
  go_wp2_with fail
  refine LEAF.out.mono ?_
  rintro e w3 ⟨rfl, hb3⟩
  have B3 := Lib.hid (B1.out.trans (hb3.mono B1.out.size))
  have s3 := (hb3.block S (row_lt S1.out)).trans S1.out
  have m0 : w3.cell? ⟨S, 0, none⟩ = some (.slice A1 n.keys.length c1) := cell_of_row w3 S 0 _ 87 (0, 0) s3
  have m1 : w3.cell? ⟨S, 1, none⟩ = some (.slice A2 n.vals.length c2) := cell_of_row w3 S 1 _ 87 (0, 0) s3
  have m2 : w3.cell? ⟨S, 2, none⟩ = some (.slice A3 n.kids.length c3) := cell_of_row w3 S 2 _ 87 (0, 0) s3
  have V3 := Lib.hid (V1.out.below hb3)
  have C3 := Lib.hid (C1.out.below hb3)
  clear hb3 s3 k0 k1 k2
  rcases HR.out.shape with ⟨hk, hv, hv12⟩ | ⟨hv, hk1, hkl, hkr, hkn⟩
  · have hz : n.kids.length = 0 := by rw [hk]; rfl
    have heq : ((n.vals.length : Int) == (n.keys.length : Int)) = true := by rw [beq_iff_eq]; omega
    have CF := Lib.hid (contf_any w3 _ n.vals V3.out hv12 (by have := HR.out.keys.1; omega))
    rw [hz, decide_eq_true rfl]
    clear hv hv12 hk
    go_wp2_with (go_at_call 110; refine CF.out.mono ?_; rintro e w4 ⟨rfl, rfl⟩)
    go_ret
    exact ⟨rfl, B3.out⟩
  · have hz : ¬ n.kids.length = 0 := by omega
    have KI := Lib.hid (kids_any w3 _ n.kids C3.out hkr hkn (by have := HR.out.keys.1; omega))
    rw [decide_eq_false hz]
    have heq : ((n.vals.length : Int) == 0) = true := by rw [hv]; rfl
    have hge : (1 : Int) ≤ (n.keys.length : Int) := by omega
    have heq2 : ((n.kids.length : Int) == wrap64 ((n.keys.length : Int) + 1)) = true := by rw [beq_iff_eq]; have := HR.out.keys.1; unfold wrap64; omega
    clear hkr hkn hk1 hv hz hkl
    go_wp2_with (go_at_call 112; refine KI.out.mono ?_; rintro e w4 ⟨rfl, hb4⟩; have B4 := Lib.hid (B3.out.trans (hb4.mono B3.out.size)); clear hb4)
    go_ret
    exact ⟨rfl, B4.out⟩
end Go.Proofs.YtnlolhlbpdmljaaGreatDoor
