/-
  tree.Put into a tree.
  Conditions: the tree is low and has few pages.
-/
import Derived.Test.YtnlolhlbpdmljaaGreatDoorTreW
namespace Go.Proofs.YtnlolhlbpdmljaaGreatDoor
open Go.ChangeShapes Go.WideShapes Go.RowKit
/-- A root of two. -/
theorem two_root {V : Nat → B8} {h l r key : Nat} {ps1 ps2 : List Nat} {K1 K2 : Nat} (h1 : PTree V h 3 l 0 key ps1 K1) (h2 : PTree V h 3 r key 4294967296 ps2 K2) (hn : (ps1 ++ ps2).Nodup) (hk : 0 < key ∧ key < 4294967296) : NRight ⟨[key], [], [l, r]⟩ ∧ Cont V h 0 4294967296 ⟨[key], [], [l, r]⟩ (ps1 ++ ps2) (K1 + K2) := by
  have hc : Cont V h 0 4294967296 ⟨[key], [], [l, r]⟩ (ps1 ++ ps2) (K1 + K2) := by
    refine .inr ⟨by simp, [ps1, ps2], [K1, K2], rfl, rfl, by simp, by simp, fun i hi => ?_⟩
    have hi : i < 2 := hi
    rcases Nat.lt_or_ge i 1 with h | h
    · have : i = 0 := by omega
      subst this; exact h1
    · have : i = 1 := by omega
      subst this; exact h2
  have hk2 := hc.kids hn
  exact ⟨⟨⟨by simp, fun k hk' => by simp at hk'; omega, by simp⟩, .inr ⟨rfl, by simp, rfl, hk2.2, hk2.1⟩⟩, hc⟩
set_option maxRecDepth 100000 in
set_option maxHeartbeats 4000000 in
theorem put_next {w : World} {B P d : Nat} {V : Nat → B8} {m : Nat} {s : SupT} {Fr Go : List Nat} (hp : PAt w B P d V m s Fr Go) (s0 : Sets0 s.2.2 Fr Go) (x : Nat) (b : B8) (hb : b.length = 12) (h32 : x ≤ 4294967295) {h rt : Nat} {ps : List Nat} {K : Nat} (ht : PTree V h 1 rt 0 4294967296 ps K) (pre : Pre s.2.2 Go ps) (hh : h ≤ 12) (hm : m + 2 * h + 1 < 100000) (hc : cnt (bothP s.2.2 Fr) 240 + 2 * h + 1 ≤ 238) :
    Calls Tryz.prog 11 #[.pointer (some ⟨P, 0, none⟩), .int .i64 (rt : Int), .int .i64 (x : Int), .string (strB b)] w (Putted w B P d V m s Fr Go (2 * h + 1) ps K) := by
  have hlen : (strB b).size = 12 := by rw [strB_size, hb]
  have h1 : ¬ (x : Int) < 0 := by omega
  have h2 : ¬ (4294967295 : Int) < (x : Int) := by omega
  have h3 : ¬ rt = 0 := by have := ht.page.2; omega
  have INS := Lib.hid (show Calls Tryz.prog 28 #[.pointer (some ⟨P, 0, none⟩), .int .i64 (rt : Int), .int .i64 1, .agg #[.int .i64 (x : Int), .string (strB b)]] w (Inserted w B P d V m s Fr Go h 1 0 4294967296 ps K) from insert_any x b hb h32 (depth := 1) hp s0 ht pre (by omega) ⟨by omega, by omega⟩ (by omega) (by omega))
  have HM := Lib.hid hm
  have HC := Lib.hid hc
  have PL := Lib.hid hp.low
  clear hp s0 ht pre hh hm hc hb h32
  go_enter Tryz.func11, Tryz.ntmps11
  go_upto_region 5 with fail
  go_wp2_with fail
  refine INS.out.mono ?_
  rintro e w2 ⟨V', m', Fr', Go', l, r, key, two, rfl, hp2, hk2, hm2, hgr⟩
  obtain ⟨G, hG⟩ : ∃ N, N = w2.heap.size := ⟨_, rfl⟩
  obtain ⟨W3, hW3⟩ : ∃ W, W = w2.alloc (.cells L89 89) := ⟨_, rfl⟩
  obtain ⟨U3, hU3⟩ : ∃ W, W = W3.setRow G (gv l r key two) := ⟨_, rfl⟩
  have n3 : W3.heap[G]? = some (.cells L89 89 (0, 0)) := by rw [hW3, hG]; exact heap_alloc_new _ _
  have b3 : Below w2.heap.size w2 W3 := by rw [hW3]; exact (Below.refl _ _).alloc (Nat.le_refl _) _
  have b4 : Below w2.heap.size w2 U3 := by rw [hU3]; exact below_setRow b3 (by omega) _
  have RG := Lib.hid (show U3.heap[G]? = some (.cells (gv l r key two) 89 (0, 0)) by rw [hU3]; exact setRow_has n3)
  have P3 := Lib.hid (hp2.below b4)
  have K3 := Lib.hid (hk2.trans (KT.of_below b4 B isPg))
  have M2 := Lib.hid hm2
  have GR := Lib.hid hgr
  have N3 := Lib.hid (heap_alloc_new w2 (.cells L89 89))
  have HG := Lib.hid hG
  have HW3 := Lib.hid hW3
  have HU3 := Lib.hid hU3.symm
  clear hG hW3 hU3 n3 b3 b4 hp2 hk2 hm2 hgr
  go_upto_region 6 with (refine wpList_store_row rfl 89 (.tmp 10) (.tmp 43) rfl w2.heap.size (gv l r key two) rfl rfl 89 L89 N3.out size89 rfl (gv_one _ _ _ _) ?_)
  rw [← HW3.out, ← HG.out, HU3.out]
  have c8 : U3.cell? ⟨G, 3, none⟩ = some (.bool two) := cell_of_row U3 G 3 _ 89 (0, 0) RG.out
  obtain ⟨ps', K', hT, hcn, hK, hres⟩ := GR.out
  have RES := Lib.hid hres
  have TT := Lib.hid hT
  have CN := Lib.hid hcn
  have KK := Lib.hid hK
  clear hres hT hcn hK
  cases two with
  | false =>
    go_upto_region 9 with fail
    have c9 : U3.cell? ⟨G, 0, none⟩ = some (.int .i64 (l : Int)) := cell_of_row U3 G 0 _ 89 (0, 0) RG.out
    clear c8
    go_wp2_with fail
    go_ret2
    rcases RES.out with ⟨_, hP⟩ | ⟨h, _⟩
    · exact ⟨V', m', Fr', Go', l, ps', K', h, rfl, P3.out, K3.out, by have := M2.out; omega, TT.out, hP, KK.out⟩
    · cases h
  | true =>
    go_upto_region 10 with fail
    clear c8
    rcases RES.out with ⟨h, _⟩ | ⟨_, hk1, hk2, hnd, ps1, ps2, K1, K2, rfl, rfl, hP1, hP2⟩
    · cases h
    obtain ⟨hright, hcont⟩ := two_root hP1 hP2 hnd ⟨hk1, hk2⟩
    obtain ⟨i, hi⟩ := free_of_cnt (z0 TT.out.s) (by have := CN.out; have := HC.out; omega)
    obtain ⟨X, hX⟩ : ∃ u, u = U3.heap.size := ⟨_, rfl⟩
    obtain ⟨W1, hW1⟩ : ∃ u, u = U3.alloc (.cells #[.int .i64 (key : Int)] 3) := ⟨_, rfl⟩
    obtain ⟨Y, hY⟩ : ∃ u, u = W1.heap.size := ⟨_, rfl⟩
    obtain ⟨W2, hW2⟩ : ∃ u, u = W1.alloc (.cells #[.int .i64 (l : Int), .int .i64 (r : Int)] 3) := ⟨_, rfl⟩
    have b1 : Below U3.heap.size U3 W1 := by rw [hW1]; exact (Below.refl _ _).alloc (Nat.le_refl _) _
    have b2 : Below U3.heap.size U3 W2 := by rw [hW2]; exact b1.alloc b1.size _
    have rX : W2.heap[X]? = some (.cells #[.int .i64 (key : Int)] 3 (0, 0)) := by rw [hW2, hW1, hX]; exact heap_alloc2_old _ _ _
    have rY : W2.heap[Y]? = some (.cells #[.int .i64 (l : Int), .int .i64 (r : Int)] 3 (0, 0)) := by rw [hW2, hY]; exact heap_alloc_new _ _
    have RG1 := Lib.hid ((b1.block G (row_lt RG.out)).trans RG.out)
    have ST := Lib.hid (tstore_any (P3.out.below b2) (.agg #[.slice (some ⟨X, 0, none⟩) 1 1, nilS, .slice (some ⟨Y, 0, none⟩) 2 2]) ⟨[key], [], [l, r]⟩ ⟨_, _, _, rfl, row_lit (xs := ints [key]) rX 1, RowAt.nil _ _ _ _, row_lit (xs := ints [l, r]) rY 2⟩ hright (by have := M2.out; have := HM.out; omega) i hi)
    have KB := Lib.hid (K3.out.trans (KT.of_below b2 B isPg))
    have hap := TT.out.apart (fun p hp => (hcont.range p hp).2) hi
    have T1 := Lib.hid (TT.out.alloc hi (laidP 2 (nlay ⟨[key], [], [l, r]⟩)) (ps2 := i :: (ps1 ++ ps2)) (fun p => List.mem_cons))
    have PT := Lib.hid (show PTree (upd V' i (laidP 2 (nlay ⟨[key], [], [l, r]⟩))) (h + 1) 1 i 0 4294967296 (i :: (ps1 ++ ps2)) (K1 + K2) from ⟨⟨[key], [], [l, r]⟩, ps1 ++ ps2, hright, by unfold upd; rw [if_pos rfl], ⟨hi.1, hi.2.1⟩, ⟨by simp, by simp⟩, fun k hk => by simp at hk; omega, rfl, List.nodup_cons.2 ⟨hap, hnd⟩, hcont.congr (fun p hp => by unfold upd; rw [if_neg (fun e => hap (by rw [← e]; exact hp))])⟩)
    have A1 := Lib.hid (show ∀ (ρ : Operand → Value) (o : Oper), (execOp ρ o).run Tryz.prog U3 = .ok (.value (.slice (some ⟨U3.heap.size, 0, none⟩) 1 1)) (U3.alloc (.cells #[.int .i64 (key : Int)] 3)) → (execOp ρ o).run Tryz.prog U3 = .ok (.value (.slice (some ⟨X, 0, none⟩) 1 1)) W1 from fun ρ o h => by rw [← hW1, ← hX] at h; exact h)
    have A2 := Lib.hid (show ∀ (ρ : Operand → Value) (o : Oper), (execOp ρ o).run Tryz.prog W1 = .ok (.value (.slice (some ⟨W1.heap.size, 0, none⟩) 2 2)) (W1.alloc (.cells #[.int .i64 (l : Int), .int .i64 (r : Int)] 3)) → (execOp ρ o).run Tryz.prog W1 = .ok (.value (.slice (some ⟨Y, 0, none⟩) 2 2)) W2 from fun ρ o h => by rw [← hW2, ← hY] at h; exact h)
    clear hX hW1 hY hW2 b1 b2 rX rY hk1 hk2 hnd hP1 hP2 hright hcont hi hap
    refine wp_region_lit ?_
    refine l_is (.move (.tmp 0)) rfl rfl (run_move_is (.tmp 0) (.pointer (some ⟨P, 0, none⟩)) rfl rfl _) ?_
    simp only [Act.put, List.setIfInBounds_toArray, List.set_cons_succ, List.set_cons_zero]
    refine l_is (.fieldAddr 89 (.tmp 10) 2) rfl rfl (run_fld89_2 (x := .tmp 10) (d := G) rfl rfl _) ?_
    simp only [Act.put, List.setIfInBounds_toArray, List.set_cons_succ, List.set_cons_zero]
    refine l_is (.load 3 (.tmp 56)) rfl rfl (run_load_int (x := .tmp 56) rfl Tryz.underlying3 rfl (cell_of_row U3 G 2 _ 89 (0, 0) RG.out)) ?_
    simp only [Act.put, List.setIfInBounds_toArray, List.set_cons_succ, List.set_cons_zero]
    refine l_go (.buildSlice 33 1 #[(0, .tmp 57)]) rfl rfl (A1.out _ _ (run_bs33 (x := .tmp 57) rfl rfl _)) ?_
    simp only [Act.put, List.setIfInBounds_toArray, List.set_cons_succ, List.set_cons_zero]
    refine l_is (.fieldAddr 89 (.tmp 10) 0) rfl rfl (run_fld89_0 (x := .tmp 10) (d := G) rfl rfl _) ?_
    simp only [Act.put, List.setIfInBounds_toArray, List.set_cons_succ, List.set_cons_zero]
    refine l_is (.load 3 (.tmp 59)) rfl rfl (run_load_int (x := .tmp 59) rfl Tryz.underlying3 rfl (cell_of_row W1 G 0 _ 89 (0, 0) RG1.out)) ?_
    simp only [Act.put, List.setIfInBounds_toArray, List.set_cons_succ, List.set_cons_zero]
    refine l_is (.fieldAddr 89 (.tmp 10) 1) rfl rfl (run_fld89_1 (x := .tmp 10) (d := G) rfl rfl _) ?_
    simp only [Act.put, List.setIfInBounds_toArray, List.set_cons_succ, List.set_cons_zero]
    refine l_is (.load 3 (.tmp 61)) rfl rfl (run_load_int (x := .tmp 61) rfl Tryz.underlying3 rfl (cell_of_row W1 G 1 _ 89 (0, 0) RG1.out)) ?_
    simp only [Act.put, List.setIfInBounds_toArray, List.set_cons_succ, List.set_cons_zero]
    refine l_go (.buildSlice 33 2 #[(0, .tmp 60), (1, .tmp 62)]) rfl rfl (A2.out _ _ (run_bs33_2 (x := .tmp 60) (y := .tmp 62) rfl rfl rfl _)) ?_
    simp only [Act.put, List.setIfInBounds_toArray, List.set_cons_succ, List.set_cons_zero]
    refine l_is (.build 87 #[(0, .tmp 58), (2, .tmp 63)]) rfl rfl (run_build87c (x := .tmp 58) (y := .tmp 63) rfl rfl rfl _) ?_
    simp only [Act.put, List.setIfInBounds_toArray, List.set_cons_succ, List.set_cons_zero]
    go_wp2_with fail
    refine ST.out.mono ?_
    rintro e w5 ⟨rfl, h5, h6⟩
    have H5 := Lib.hid h5
    have H6 := Lib.hid h6
    clear h5 h6
    go_wp2_with fail
    go_ret2
    exact ⟨_, _, _, _, i, _, _, _, rfl, H5.out, KB.out.trans H6.out, by have := M2.out; omega, T1.out, PT.out, KK.out⟩
end Go.Proofs.YtnlolhlbpdmljaaGreatDoor
