/-
  Disk.Read.
  Conditions: none.
-/
import Derived.Test.YtnlolhlbpdmljaaGreatDoorDiskB
namespace Go.Proofs.YtnlolhlbpdmljaaGreatDoor
open Go.ChangeShapes Go.WideShapes Go.RowKit

/-- What a reader sees of a sector: the last loose write, or what is firm. -/
def vw (L : List (Nat × B8)) (i : Nat) (p : B8) : B8 := L.foldl (fun p x => if x.1 = i then x.2 else p) p
def view (F : List B8) (L : List (Nat × B8)) (i : Nat) : B8 := vw L i (F.getD i [])
theorem vw_snoc (L : List (Nat × B8)) (x : Nat × B8) (i : Nat) (p : B8) : vw (L ++ [x]) i p = if x.1 = i then x.2 else vw L i p := by unfold vw; rw [List.foldl_append]; rfl
theorem vw_take {L : List (Nat × B8)} {k : Nat} (hk : k < L.length) (i : Nat) (p : B8) : vw (L.take (k + 1)) i p = if L[k].1 = i then L[k].2 else vw (L.take k) i p := by
  have e : L.take (k + 1) = L.take k ++ [L[k]] := by rw [List.take_add_one, List.getElem?_eq_getElem hk]; rfl
  rw [e, vw_snoc]
theorem vw_length {L : List (Nat × B8)} (hL : ∀ x ∈ L, x.1 < 240 ∧ x.2.length = 128) (i : Nat) (p : B8) (hp : p.length = 128) : (vw L i p).length = 128 := by
  unfold vw
  induction L generalizing p with
  | nil => exact hp
  | cons x L ih =>
    rw [List.foldl_cons]
    refine ih (fun y hy => hL y (by simp [hy])) _ ?_
    split
    · exact (hL x (by simp)).2
    · exact hp
theorem vw_take_length {L : List (Nat × B8)} (hL : ∀ x ∈ L, x.1 < 240 ∧ x.2.length = 128) (k i : Nat) (p : B8) (hp : p.length = 128) : (vw (L.take k) i p).length = 128 :=
  vw_length (fun x hx => hL x (List.mem_of_mem_take hx)) i p hp
theorem range_page {w : World} {g : Nat} {F : List B8} (hF : ∀ p ∈ F, p.length = 128) (h : w.heap[g]? = some (.cells (pcells F).toArray 39 (0, 0))) {i : Nat} (hi : i < F.length) : w.rangeAt g (i * 128) (cellsB F[i]) := by
  intro j u hj
  rw [cell_of_row w g _ _ 39 (0, 0) h]
  have hl : (cellsB F[i]).length = 128 := by rw [cellsB_length, hF _ (List.getElem_mem _)]
  have hj8 : j < 128 := by
    rcases Nat.lt_or_ge j 128 with h1 | h1
    · exact h1
    · rw [List.getElem?_eq_none (by omega)] at hj; cases hj
  have := flat_at (s := 128) (F.map cellsB) (fun x hx => by
    obtain ⟨p, hp, rfl⟩ := List.mem_map.1 hx
    rw [cellsB_length, hF p hp]) i j hj8 (cellsB F[i]) (by simp [hi])
  unfold pcells
  simpa using this.trans hj
theorem range_loose {w : World} {B : Nat} {A : Option Addr} {n c : Nat} {L : List (Nat × B8)} (hL : ∀ x ∈ L, x.1 < 240 ∧ x.2.length = 128) (h : w.ownsRow B 83 129 (.slice A n c) L.length (lcells L)) {k : Nat} (hk : k < L.length) :
    n = L.length ∧ ∃ G cur, A = some ⟨G, 0, none⟩ ∧ w.heap[G]? = some (.cells cur 83 (0, 0)) ∧ w.rangeAt G (k * 129) (.int .i64 (L[k].1 : Int) :: cellsB L[k].2) := by
  rcases h.2 with ⟨e, h0⟩ | ⟨G, cap, cur, e, _, hh, hc1, hc2, hs, hcs⟩
  · omega
  · injection e with e1 e2 e3
    refine ⟨e2, G, cur, e1, hh, ?_⟩
    intro j u hj
    rw [cell_of_row w G _ _ 83 (0, 0) hh]
    have hp := (hL _ (List.getElem_mem hk)).2
    have hl : (Value.int .i64 (L[k].1 : Int) :: cellsB L[k].2).length = 129 := by rw [List.length_cons, cellsB_length, hp]
    have hj8 : j < 129 := by
      rcases Nat.lt_or_ge j 129 with h1 | h1
      · exact h1
      · rw [List.getElem?_eq_none (by omega)] at hj; cases hj
    have := flat_at (s := 129) (L.map (fun x => Value.int .i64 (x.1 : Int) :: cellsB x.2)) (fun x hx => by
      obtain ⟨p, hp, rfl⟩ := List.mem_map.1 hx
      rw [List.length_cons, cellsB_length, (hL p hp).2]) k j hj8 _ (by rw [List.getElem?_map, List.getElem?_eq_getElem hk]; rfl)
    have e4 : (lcells L)[k * 129 + j]? = some u := this.trans hj
    rw [← hcs, List.getElem?_take] at e4
    split at e4
    · rw [← e4, Array.getElem?_toList]
    · cases e4
theorem range_tail {w : World} {b o : Nat} {x : Value} {xs : List Value} (h : w.rangeAt b o (x :: xs)) : w.rangeAt b (o + 1) xs := fun j v hj => by
  have := h (j + 1) v (by simpa using hj)
  rwa [show o + 1 + j = o + (j + 1) by omega]
theorem size83 : (Tryz.prog.info? 83).map (·.size) = some 129 := by kernel_rfl
set_option maxRecDepth 100000 in
set_option maxHeartbeats 1000000 in
theorem dread_any (w : World) (B d g : Nat) (v : Value) (F : List B8) (L : List (Nat × B8)) (i : Nat) (hi : i < 240) (H : DiskAt w B d g v F L) :
    Calls Tryz.prog 10 #[.pointer (some ⟨d, 0, none⟩), .int .i64 (i : Int)] w fun e w' => e = .returned (.tuple #[.agg (pv (view F L i)), .nilIface]) ∧ Below w.heap.size w w' := by
  obtain ⟨A, c, rfl⟩ := own_slice H.own
  obtain ⟨p0, hp0⟩ : ∃ p, p = F.getD i [] := ⟨_, rfl⟩
  have hiF : i < F.length := by rw [H.len]; exact hi
  have hpe : F[i] = p0 := by rw [hp0, List.getD_eq_getElem?_getD, List.getElem?_eq_getElem hiF]; rfl
  have hpl : p0.length = 128 := by rw [← hpe]; exact H.page _ (List.getElem_mem _)
  obtain ⟨R, hR⟩ : ∃ R, R = w.heap.size := ⟨_, rfl⟩
  obtain ⟨W1, hW1⟩ : ∃ W, W = w.alloc (.cells Tryz.zeroCells39 39) := ⟨_, rfl⟩
  have b1 : Below w.heap.size w W1 := by rw [hW1]; exact (Below.refl _ _).alloc (Nat.le_refl _) _
  have H1 := Lib.hid (H.below b1)
  have R1 := Lib.hid (show W1.heap[R]? = some (.cells (pv (zeros 128)) 39 (0, 0)) by rw [hW1, hR, ← zero39]; exact heap_alloc_new _ _)
  have HR := Lib.hid hR
  have HW1 := Lib.hid hW1
  have B1 := Lib.hid b1
  have MAY := Lib.hid (dmay_any W1 d g _ i hi H1.out.obj)
  have C1 := dcell H1.out.obj
  obtain ⟨c0, c1, c2, _⟩ := C1
  have RG := Lib.hid (show W1.rangeAt g (i * 128) (cellsB p0) by rw [← hpe]; exact range_page H1.out.page H1.out.row hiF)
  have SZ := Lib.hid (show (Tryz.prog.info? 39).map (·.size) = some (cellsB p0).length by rw [cellsB_length, hpl]; exact size39)
  have hlen := H.len
  have HP0 := Lib.hid hp0
  have HPL := Lib.hid hpl
  obtain ⟨Q, hQ⟩ : ∃ Q, Q = W1.heap.size := ⟨_, rfl⟩
  obtain ⟨W2, hW2⟩ : ∃ W, W = W1.alloc (.cells Tryz.zeroCells39 39) := ⟨_, rfl⟩
  obtain ⟨W3, hW3⟩ : ∃ W, W = W2.setRow Q (pv p0) := ⟨_, rfl⟩
  have q2 : W2.heap[Q]? = some (.cells (pv (zeros 128)) 39 (0, 0)) := by rw [hW2, hQ, ← zero39]; exact heap_alloc_new _ _
  have b2 : Below W1.heap.size W1 W2 := by rw [hW2]; exact (Below.refl _ _).alloc (Nat.le_refl _) _
  have Q3 := Lib.hid (show W3.heap[Q]? = some (.cells (pv p0) 39 (0, 0)) by rw [hW3]; exact setRow_has q2)
  have B3 := Lib.hid (show Below W1.heap.size W1 W3 by rw [hW3]; exact below_setRow b2 (by rw [hQ]; exact Nat.le_refl _) _)
  have Q2 := Lib.hid q2
  have HQ := Lib.hid hQ
  have HW2 := Lib.hid hW2
  have HW3 := Lib.hid hW3.symm
  have SP := Lib.hid (show ∀ q : B8, q.length = 128 → (Tryz.prog.info? 39).map (·.size) = some (pv q).size ∧ (pv (zeros 128)).size = (pv q).size by
    intro q hq
    exact ⟨by rw [pv_size, hq]; exact size39, by rw [pv_size, pv_size, hq]; rfl⟩)
  have c1' := (dcell (H1.out.below B3.out).obj).2.1
  have HV := Lib.hid (show vw (L.take 0) i p0 = p0 from rfl)
  have LL := Lib.hid H1.out.lpage
  have HLS := Lib.hid H1.out.small
  have hsm := H1.out.small
  clear hR hW1 b1 hpe hp0 H hpl hlen hQ hW2 hW3 q2 b2
  go_enter Tryz.func10, Tryz.ntmps10
  go_wp2_with fail
  rw [← HW1.out, ← HR.out]
  refine MAY.out.mono ?_
  rintro e w1 ⟨rfl, rfl⟩
  go_wp2_with (first | (refine wpList_load_mid rfl 39 (.tmp 22) rfl g (i * 128) rfl (cellsB p0) _ RG.out Tryz.underlying39 rfl SZ.out ?_) | (rw [← HW2.out, ← HQ.out]; refine wpList_store_row rfl 39 (.tmp 7) (.tmp 23) rfl Q (pv p0) rfl rfl 39 (pv (zeros 128)) Q2.out (SP.out _ HPL.out).1 (SP.out _ HPL.out).2 (pv_one _) ?_; rw [HW3.out]))
  go_loopw [29] (fun i' wr => ∃ k : Nat, i' = .int .i64 k ∧ k ≤ L.length ∧ wr.heap[Q]? = some (.cells (pv (vw (L.take k) i p0)) 39 (0, 0)) ∧ Below Q W3 wr) (fun i' _ => L.length - (intOf i').toNat)
  case atStart => exact ⟨0, rfl, by omega, by rw [HV.out]; exact Q3.out, Below.refl _ _⟩
  case round =>
    obtain ⟨k, rfl, hk, hq, hb⟩ := hrel
    have QQ := Lib.hid hq
    have B4 := Lib.hid (show Below W1.heap.size W1 wr from B3.out.trans (by rw [← HQ.out]; exact hb))
    have VL := Lib.hid (vw_take_length LL.out k i p0 HPL.out)
    clear hq
    by_cases hlt : k < L.length
    · have H4 := Lib.hid (H1.out.below B4.out)
      obtain ⟨x, hx⟩ : ∃ x, x = L[k] := ⟨_, rfl⟩
      obtain ⟨_, G, cur, rfl, hG, hrg⟩ := range_loose H4.out.lpage H4.out.own hlt
      rw [← hx] at hrg
      have HX := Lib.hid hx
      have RG4 := Lib.hid hrg
      have XL := Lib.hid (show x.1 < 240 ∧ x.2.length = 128 by rw [hx]; exact LL.out _ (List.getElem_mem _))
      have SX := Lib.hid (show (Tryz.prog.info? 83).map (·.size) = some (Value.int .i64 (x.1 : Int) :: cellsB x.2).length by rw [List.length_cons, cellsB_length, XL.out.2]; exact size83)
      have SX' := Lib.hid (show (Tryz.prog.info? 83).map (·.size) = some (Value.int .i64 (x.1 : Int) :: cellsB x.2).toArray.size by rw [List.size_toArray]; exact SX.out)
      obtain ⟨X, hXX⟩ : ∃ X, X = wr.heap.size := ⟨_, rfl⟩
      obtain ⟨U1, hU1⟩ : ∃ U, U = wr.alloc (.cells Tryz.zeroCells83 83) := ⟨_, rfl⟩
      obtain ⟨U2, hU2⟩ : ∃ U, U = U1.setRow X (Value.int .i64 (x.1 : Int) :: cellsB x.2).toArray := ⟨_, rfl⟩
      have x1 : U1.heap[X]? = some (.cells Tryz.zeroCells83 83 (0, 0)) := by rw [hU1, hXX]; exact heap_alloc_new _ _
      have X1 := Lib.hid x1
      have ZX := Lib.hid (show Tryz.zeroCells83.size = (Value.int .i64 (x.1 : Int) :: cellsB x.2).toArray.size by rw [zsize83]; simp [cellsB_length, XL.out.2])
      have OX := Lib.hid (show (Value.int .i64 (x.1 : Int) :: cellsB x.2).toArray.all (·.oneCell') = true from all_oneCell_toArray (fun v hv => by
        rcases List.mem_cons.1 hv with rfl | hv
        · rfl
        · exact cellsB_one _ v hv))
      have x2 : U2.heap[X]? = some (.cells (Value.int .i64 (x.1 : Int) :: cellsB x.2).toArray 83 (0, 0)) := by rw [hU2]; exact setRow_has x1
      have hc0 : U2.cell? ⟨X, 0, none⟩ = some (.int .i64 (x.1 : Int)) := cell_of_row U2 X 0 _ 83 (0, 0) x2
      have R2 := Lib.hid (show U2.rangeAt X 1 (cellsB x.2) from fun j v hj => by
        rw [cell_of_row U2 X _ _ 83 (0, 0) x2, Nat.add_comm 1 j]
        simpa using hj)
      have SZ2 := Lib.hid (show (Tryz.prog.info? 39).map (·.size) = some (cellsB x.2).length by rw [cellsB_length, XL.out.2]; exact size39)
      have bU : Below wr.heap.size wr U2 := by rw [hU2]; exact below_setRow (by rw [hU1]; exact (Below.refl _ _).alloc (Nat.le_refl _) _) (by rw [hXX]; exact Nat.le_refl _) _
      have QU := Lib.hid ((bU.block Q (row_lt QQ.out)).trans QQ.out)
      have BU := Lib.hid (hb.trans (bU.mono (Nat.le_of_lt (row_lt QQ.out))))
      have HXX := Lib.hid hXX
      have HU1 := Lib.hid hU1
      have HU2 := Lib.hid hU2.symm
      have HLT := Lib.hid hlt
      clear hXX hU1 hU2 x1 x2 bU hx hG hrg hb
      by_cases he : x.1 = i
      · have VT := Lib.hid (show vw (L.take (k + 1)) i p0 = x.2 by rw [vw_take HLT.out, ← HX.out, if_pos he])
        have hbe : ((x.1 : Int) == (i : Int)) = true := by rw [beq_iff_eq]; omega
        have SPX := Lib.hid (show (Tryz.prog.info? 39).map (·.size) = some (pv x.2).size ∧ (pv (vw (L.take k) i p0)).size = (pv x.2).size from ⟨(SP.out _ XL.out.2).1, by rw [pv_size, pv_size, XL.out.2]; exact VL.out⟩)
        have NQ := Lib.hid (show (U2.setRow Q (pv x.2)).heap[Q]? = some (.cells (pv x.2) 39 (0, 0)) from setRow_has QU.out)
        have NB := Lib.hid (show Below Q W3 (U2.setRow Q (pv x.2)) from below_setRow BU.out (Nat.le_refl _) _)
        clear he
        go_wp2_with (first | (refine wpList_load_mid rfl 83 (.tmp 31) rfl G (k * 129) rfl _ _ RG4.out Tryz.underlying83 rfl SX.out ?_) | (rw [← HU1.out, ← HXX.out]; refine wpList_store_row rfl 83 (.tmp 9) (.tmp 32) rfl X _ rfl rfl 83 _ X1.out SX'.out ZX.out OX.out ?_; rw [HU2.out]) | (refine wpList_load_mid rfl 39 (.tmp 37) rfl X 1 rfl (cellsB x.2) _ R2.out Tryz.underlying39 rfl SZ2.out ?_) | (refine wpList_store_row rfl 39 (.tmp 7) (.tmp 38) rfl Q (pv x.2) rfl rfl 39 _ QU.out SPX.out.1 SPX.out.2 (pv_one _) ?_))
        go_roundw
        case rel => exact ⟨k + 1, by go_num, HLT.out, by rw [VT.out]; exact NQ.out, NB.out⟩
        case measure => have := HLT.out; simp [intOf]; omega
      · have VT := Lib.hid (show vw (L.take (k + 1)) i p0 = vw (L.take k) i p0 by rw [vw_take HLT.out, ← HX.out, if_neg he])
        have hbe : ((x.1 : Int) == (i : Int)) = false := by rw [beq_eq_false_iff_ne]; omega
        clear he
        go_wp2_with (first | (refine wpList_load_mid rfl 83 (.tmp 31) rfl G (k * 129) rfl _ _ RG4.out Tryz.underlying83 rfl SX.out ?_) | (rw [← HU1.out, ← HXX.out]; refine wpList_store_row rfl 83 (.tmp 9) (.tmp 32) rfl X _ rfl rfl 83 _ X1.out SX'.out ZX.out OX.out ?_; rw [HU2.out]))
        go_roundw
        case rel => exact ⟨k + 1, by go_num, HLT.out, by rw [VT.out]; exact QU.out, BU.out⟩
        case measure => have := HLT.out; simp [intOf]; omega
    · have hkl : k = L.length := by omega
      subst hkl
      have VA := Lib.hid (show vw (L.take L.length) i p0 = view F L i by unfold view; rw [List.take_length, HP0.out])
      have QE := Lib.hid (show wr.heap[Q]? = some (.cells (pv (view F L i)) 39 (0, 0)) by rw [← VA.out]; exact QQ.out)
      have EL := Lib.hid (show (view F L i).length = 128 by rw [← VA.out]; exact VL.out)
      have R4 := Lib.hid ((B4.out.block R (row_lt R1.out)).trans R1.out)
      have BB := Lib.hid (B1.out.trans (B4.out.mono B1.out.size))
      clear hb
      go_wp2_with (first | (refine wpList_load_row rfl 39 (.tmp 7) rfl Q rfl 39 (pv (view F L i)) (0, 0) _ QE.out Tryz.underlying39 rfl (SP.out _ EL.out).1 ?_) | (refine wpList_store_row rfl 39 (.tmp 4) (.tmp 40) rfl R (pv (view F L i)) rfl rfl 39 (pv (zeros 128)) R4.out (SP.out _ EL.out).1 (SP.out _ EL.out).2 (pv_one _) ?_))
      exact bodyPost_ret (results_page rfl _ _ R 39 (pv (view F L i)) (0, 0) .nilIface rfl (setRow_has R4.out) (SP.out _ EL.out).1 rfl) rfl ⟨rfl, below_setRow BB.out (by rw [HR.out]; exact Nat.le_refl _) _⟩
end Go.Proofs.YtnlolhlbpdmljaaGreatDoor
