/-
  The package check: a page, and all below it.
  Conditions: it is a tree; its pages are used ones.
-/
import Derived.Test.YtnlolhlbpdmljaaGreatDoorChkB
namespace Go.Proofs.YtnlolhlbpdmljaaGreatDoor
open Go.ChangeShapes Go.WideShapes Go.RowKit
/-- The three cells of a node. -/
theorem node_cells {w : World} {N : Nat} {a b c : Value} (h : w.heap[N]? = some (.cells #[a, b, c] 87 (0, 0))) : w.cell? ⟨N, 0, none⟩ = some a ∧ w.cell? ⟨N, 1, none⟩ = some b ∧ w.cell? ⟨N, 2, none⟩ = some c :=
  ⟨cell_of_row w N 0 _ 87 (0, 0) h, cell_of_row w N 1 _ 87 (0, 0) h, cell_of_row w N 2 _ 87 (0, 0) h⟩
theorem look_cells {w0 w : World} {L M P : Nat} {lev : Nat} {T : List Nat} {B d : Nat} {V : Nat → B8} {m : Nat} {s : SupT} {Fr Go : List Nat} (h : Lk w0 w L M P lev T B d V m s Fr Go) : w.cell? ⟨L, 0, none⟩ = some (.pointer (some ⟨P, 0, none⟩)) ∧ w.cell? ⟨L, 1, none⟩ = some (.map (some M)) :=
  ⟨cell_of_row w L 0 _ 81 (0, 0) h.obj, cell_of_row w L 1 _ 81 (0, 0) h.obj⟩
set_option maxRecDepth 100000 in
set_option maxHeartbeats 4000000 in
theorem look_page_step {w : World} {L M P : Nat} {lev : Nat} {T : List Nat} {B d : Nat} {V : Nat → B8} {m : Nat} {s : SupT} {Fr Go : List Nat} (h : Lk w w L M P lev T B d V m s Fr Go) (n : PN) (at_ depth lo hi lf : Nat) (hr : NRight n) (hV : V at_ = laidP 2 (nlay n)) (hat : at_ < 240) (hu : mem (usedP s.2.2 Fr Go) at_ = true) (hkk : ∀ k ∈ n.keys, lo ≤ k ∧ k < hi) (h1 : 1 ≤ n.keys.length) (h3 : depth ≤ 1 ∨ 3 ≤ n.keys.length) (hd : depth ≤ 12) (hnot : at_ ∉ T) (hT : T.length ≤ 1000) (ps0 : List Nat)
    (hleaf : n.kids = [] → ps0 = [] ∧ lf = depth ∧ (lev = 0 ∨ lev = depth))
    (hkids : n.kids ≠ [] → ∀ (w' : World) (v : Value), NAt w' v n → Lk w' w' L M P lev (T ++ [at_]) B d V m s Fr Go → Calls Tryz.prog 78 #[.pointer (some ⟨L, 0, none⟩), v, .int .i64 (depth : Int), .int .i64 (lo : Int), .int .i64 (hi : Int)] w' fun e w'' => e = .returned .nilIface ∧ Lk w' w'' L M P lf ((T ++ [at_]) ++ ps0) B d V m s Fr Go) :
    Calls Tryz.prog 46 #[.pointer (some ⟨L, 0, none⟩), .int .i64 (at_ : Int), .int .i64 (depth : Int), .int .i64 (lo : Int), .int .i64 (hi : Int)] w fun e w' => e = .returned .nilIface ∧ Lk w w' L M P lf (T ++ (at_ :: ps0)) B d V m s Fr Go := by
  obtain ⟨cL0, cL1⟩ := look_cells h
  have hlook := h.map.look (show at_ < 1000000 by omega)
  rw [decide_eq_false hnot] at hlook
  obtain ⟨w1, hrun, hm1, hg1⟩ := h.map.put (show at_ < 1000000 by omega) hnot (by omega)
  have l1 := h.put hm1 hg1
  have L1 := Lib.hid l1
  have hgt : ¬ (12 : Int) < (depth : Int) := by omega
  have hmu : (mem s.2.2 at_ || mem Fr at_) = true := by
    rw [mem_usedP h.pg.su h.pg.sf hat] at hu
    cases h : (mem s.2.2 at_ || mem Fr at_) with
    | true => rfl
    | false => rw [h] at hu; cases hu
  have LOAD := Lib.hid (pload_any l1.pg at_ hat hmu (nlay n) (by have := nlay_length hr; omega) hV)
  have READ := Lib.hid (fun w => nread_any w n hr)
  have USED := Lib.hid (fun (w' : World) (q : PAt w' B P d V m s Fr Go) => used_any q)
  have HASP := Lib.hid (show ∀ w', Calls Tryz.prog 17 #[.agg (Bv (usedP s.2.2 Fr Go)), .int .i64 (at_ : Int)] w' fun e w'' => e = .returned (.bool true) ∧ Below w'.heap.size w' w'' from fun w' => by
    have hc := has_any (usedP s.2.2 Fr Go) (at_ : Int) w' (usedP_set h.pg.su h.pg.sf)
    have e : hasP (usedP s.2.2 Fr Go) (at_ : Int) = true := by unfold hasP; rw [inB_nat hat, Int.toNat_natCast, hu]; rfl
    rw [e] at hc
    exact hc)
  have WITHIN := Lib.hid (fun (w' : World) (v : Value) (q : NAt w' v n) => within_any w' v n lo hi q h1 hkk hr.keys.1)
  have LEAFQ := Lib.hid leaf_any
  have LT := Lib.hid hleaf
  have KD := Lib.hid hkids
  have HR := Lib.hid hr
  obtain ⟨qq, hqq⟩ : ∃ q : Nat, q = n.keys.length := ⟨_, rfl⟩
  have h3' : depth ≤ 1 ∨ 3 ≤ qq := by rw [hqq]; exact h3
  have HQ := Lib.hid hqq.symm
  have HAT := Lib.hid hat
  clear h hm1 hg1 l1 hmu hr hV hu hkk h1 h3 hnot hT hleaf hkids hqq hd hat
  go_enter Tryz.func46, Tryz.ntmps46
  go_upto_region 3 with fail
  go_upto_region 4 with fail
  clear cL0 cL1 hlook hrun
  obtain ⟨cL0, _⟩ := look_cells L1.out
  go_wp2_with fail
  refine LOAD.out.mono ?_
  rintro e w2 ⟨rfl, hb2⟩
  have L2 := Lib.hid (L1.out.below hb2)
  clear hb2 cL0
  go_wp2_with fail
  refine (READ.out w2).mono ?_
  rintro e w3 ⟨vK, vV, vC, rfl, ho, hb3⟩
  obtain ⟨N, hN⟩ : ∃ N, N = w3.heap.size := ⟨_, rfl⟩
  obtain ⟨W3, hW3⟩ : ∃ W, W = w3.alloc (.cells #[nilS, nilS, nilS] 87) := ⟨_, rfl⟩
  obtain ⟨U3, hU3⟩ : ∃ W, W = W3.setRow N #[vK, vV, vC] := ⟨_, rfl⟩
  have n3 : W3.heap[N]? = some (.cells #[nilS, nilS, nilS] 87 (0, 0)) := by rw [hW3, hN]; exact heap_alloc_new _ _
  have b3 : Below w3.heap.size w3 W3 := by rw [hW3]; exact (Below.refl _ _).alloc (Nat.le_refl _) _
  have b4 : Below w3.heap.size w3 U3 := by rw [hU3]; exact below_setRow b3 (by omega) _
  have b5 := hb3.trans (b4.mono hb3.size)
  have L4 := Lib.hid (L2.out.below b5)
  have O4 := Lib.hid (ho.below b4)
  have N4 := Lib.hid (show U3.heap[N]? = some (.cells #[vK, vV, vC] 87 (0, 0)) by rw [hU3]; exact setRow_has n3)
  have ONE := Lib.hid (node_one ho)
  have N3 := Lib.hid (heap_alloc_new w3 (.cells #[nilS, nilS, nilS] 87))
  have HN := Lib.hid hN
  have HW3 := Lib.hid hW3
  have HU3 := Lib.hid hU3.symm
  clear hN hW3 hU3 n3 b3 b4 b5 ho hb3 L2
  go_upto_region 8 with (refine wpList_store_row rfl 87 (.tmp 13) (.tmp 45) rfl w3.heap.size #[vK, vV, vC] rfl rfl 87 #[nilS, nilS, nilS] N3.out size87 rfl ONE.out ?_)
  rw [← HW3.out, ← HN.out, HU3.out]
  obtain ⟨cL0, _⟩ := look_cells L4.out
  go_upto_region 10 with fail
  go_wp2_with fail
  clear cL0
  refine (USED.out U3 L4.out.pg).mono ?_
  rintro e w5 ⟨rfl, hb5⟩
  have L5 := Lib.hid (L4.out.below hb5)
  have O5 := Lib.hid (O4.out.below hb5)
  have N5 := Lib.hid ((hb5.block N (row_lt N4.out)).trans N4.out)
  clear hb5 L4 O4 N4
  go_wp2_with fail
  refine (HASP.out w5).mono ?_
  rintro e w6 ⟨rfl, hb6⟩
  have L6 := Lib.hid (L5.out.below hb6)
  have O6 := Lib.hid (O5.out.below hb6)
  have N6 := Lib.hid ((hb6.block N (row_lt N5.out)).trans N5.out)
  clear hb6 L5 O5 N5
  obtain ⟨cN0, cN1, cN2⟩ := node_cells N6.out
  go_wp2_with fail
  clear cN0 cN1 cN2
  refine (WITHIN.out w6 _ O6.out.at).mono ?_
  rintro e w7 ⟨rfl, hb7⟩
  have L7 := Lib.hid (L6.out.below hb7)
  have O7 := Lib.hid (O6.out.below hb7)
  have N7 := Lib.hid ((hb7.block N (row_lt N6.out)).trans N6.out)
  clear hb7 L6 O6 N6
  obtain ⟨A1, c1, rfl⟩ := own_slice O7.out.keys
  rw [HQ.out] at *
  obtain ⟨cN0, cN1, cN2⟩ := node_cells N7.out
  by_cases hdep : depth ≤ 1
  · have hgt1 : ¬ (1 : Int) < (depth : Int) := by omega
    clear h3' hdep
    go_upto_region 12 with fail
    go_wp2_with fail
    clear cN0 cN1 cN2
    refine (LEAFQ.out w7 _ n O7.out.at).mono ?_
    rintro e w8 ⟨rfl, hb8⟩
    have L8 := Lib.hid (L7.out.below hb8)
    have O8 := Lib.hid (O7.out.below hb8)
    have N8 := Lib.hid ((hb8.block N (row_lt N7.out)).trans N7.out)
    clear hb8 L7 O7 N7
    by_cases hl : n.kids = []
    · have hz : decide (n.kids.length = 0) = true := by rw [hl]; rfl
      rw [hz]
      obtain ⟨rfl, rfl, hlv⟩ := LT.out hl
      go_upto_region 13 with fail
      go_wp2_with fail
      refine (look_leaf L8.out.self _ hlv).mono ?_
      rintro e w9 ⟨rfl, hk9⟩
      have L9 := Lib.hid (L8.out.then hk9)
      clear hk9
      go_wp2_with fail
      go_ret
      exact ⟨rfl, L9.out⟩
    · have hz : decide (n.kids.length = 0) = false := decide_eq_false (fun e => hl (List.eq_nil_of_length_eq_zero e))
      rw [hz]
      go_upto_region 14 with fail
      obtain ⟨cN0, cN1, cN2⟩ := node_cells N8.out
      go_wp2_with fail
      clear cN0 cN1 cN2
      refine (KD.out hl w8 _ O8.out.at L8.out.self).mono ?_
      rintro e w9 ⟨rfl, hk9⟩
      have l9 := L8.out.then hk9
      rw [List.append_assoc] at l9
      have L9 := Lib.hid l9
      clear hk9 l9
      go_wp2_with fail
      go_ret
      exact ⟨rfl, L9.out⟩
  · have hgt1 : (1 : Int) < (depth : Int) := by omega
    have hq3 : ¬ (qq : Int) < 3 := by have := h3'.resolve_left hdep; omega
    clear h3' hdep
    go_upto_region 12 with fail
    go_wp2_with fail
    clear cN0 cN1 cN2
    refine (LEAFQ.out w7 _ n O7.out.at).mono ?_
    rintro e w8 ⟨rfl, hb8⟩
    have L8 := Lib.hid (L7.out.below hb8)
    have O8 := Lib.hid (O7.out.below hb8)
    have N8 := Lib.hid ((hb8.block N (row_lt N7.out)).trans N7.out)
    clear hb8 L7 O7 N7
    by_cases hl : n.kids = []
    · have hz : decide (n.kids.length = 0) = true := by rw [hl]; rfl
      rw [hz]
      obtain ⟨rfl, rfl, hlv⟩ := LT.out hl
      go_upto_region 13 with fail
      go_wp2_with fail
      refine (look_leaf L8.out.self _ hlv).mono ?_
      rintro e w9 ⟨rfl, hk9⟩
      have L9 := Lib.hid (L8.out.then hk9)
      clear hk9
      go_wp2_with fail
      go_ret
      exact ⟨rfl, L9.out⟩
    · have hz : decide (n.kids.length = 0) = false := decide_eq_false (fun e => hl (List.eq_nil_of_length_eq_zero e))
      rw [hz]
      go_upto_region 14 with fail
      obtain ⟨cN0, cN1, cN2⟩ := node_cells N8.out
      go_wp2_with fail
      clear cN0 cN1 cN2
      refine (KD.out hl w8 _ O8.out.at L8.out.self).mono ?_
      rintro e w9 ⟨rfl, hk9⟩
      have l9 := L8.out.then hk9
      rw [List.append_assoc] at l9
      have L9 := Lib.hid l9
      clear hk9 l9
      go_wp2_with fail
      go_ret
      exact ⟨rfl, L9.out⟩
end Go.Proofs.YtnlolhlbpdmljaaGreatDoor
