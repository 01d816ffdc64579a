/-
  The disk by what its sectors read as; disk.New; frames stored and loaded. disk.New; a sector that was never written: its frame is no frame.
  Conditions: none.
-/
import Derived.Test.YtnlolhlbpdmljaaGreatDoorDiskD
namespace Go.Proofs.YtnlolhlbpdmljaaGreatDoor
open Go.ChangeShapes Go.WideShapes Go.RowKit

/-- The disk at d: sector i reads as V i; n writes are not firm. -/
def Dsk (w : World) (B d : Nat) (V : Nat → B8) (n : Nat) : Prop := ∃ g v F L, DiskAt w B d g v F L ∧ (∀ i, i < 240 → view F L i = V i) ∧ L.length = n
def upd (V : Nat → B8) (i : Nat) (p : B8) : Nat → B8 := fun j => if j = i then p else V j
theorem Dsk.below {w w' : World} {B d : Nat} {V : Nat → B8} {n : Nat} (h : Dsk w B d V n) (b : Below w.heap.size w w') : Dsk w' B d V n := by
  obtain ⟨g, v, F, L, h1, h2⟩ := h
  exact ⟨g, v, F, L, h1.below b, h2⟩
theorem Dsk.congr {w : World} {B d : Nat} {V V' : Nat → B8} {n : Nat} (h : Dsk w B d V n) (e : ∀ i, i < 240 → V i = V' i) : Dsk w B d V' n := by
  obtain ⟨g, v, F, L, h1, h2, h3⟩ := h
  exact ⟨g, v, F, L, h1, fun i hi => (h2 i hi).trans (e i hi), h3⟩
theorem Dsk.low {w : World} {B d : Nat} {V : Nat → B8} {n : Nat} (h : Dsk w B d V n) : B ≤ d ∧ d < w.heap.size := by
  obtain ⟨g, v, F, L, h1, h2, h3⟩ := h
  exact ⟨h1.low.1, row_lt h1.obj⟩
theorem Dsk.length {w : World} {B d : Nat} {V : Nat → B8} {n : Nat} (h : Dsk w B d V n) (i : Nat) (hi : i < 240) : (V i).length = 128 := by
  obtain ⟨g, v, F, L, h1, h2, h3⟩ := h
  rw [← h2 i hi]
  refine vw_length h1.lpage i _ ?_
  have hiF : i < F.length := by rw [h1.len]; exact hi
  rw [List.getD_eq_getElem?_getD, List.getElem?_eq_getElem hiF]
  exact h1.page _ (List.getElem_mem _)
theorem writeD {w : World} {B d : Nat} {V : Nat → B8} {n : Nat} (h : Dsk w B d V n) (i : Nat) (p : B8) (hi : i < 240) (hp : p.length = 128) (hn : n < 100000) :
    Calls Tryz.prog 70 #[.pointer (some ⟨d, 0, none⟩), .int .i64 (i : Int), .agg (pv p)] w fun e w' => e = .returned .nilIface ∧ Dsk w' B d (upd V i p) (n + 1) ∧ KT B isDisk w w' := by
  obtain ⟨g, v, F, L, h1, h2, h3⟩ := h
  refine (dwrite_any w B d g v F L i p hi hp (by omega) h1).mono ?_
  rintro e w' ⟨rfl, ⟨v', h4⟩, hk⟩
  refine ⟨rfl, ⟨g, v', F, _, h4, fun j hj => ?_, by rw [List.length_append, h3]; rfl⟩, hk⟩
  unfold upd
  have h5 := h2 j hj
  unfold view at h5 ⊢
  rw [vw_snoc, h5]
  by_cases e : i = j
  · simp [e]
  · rw [if_neg e, if_neg (fun h => e h.symm)]
theorem readD {w : World} {B d : Nat} {V : Nat → B8} {n : Nat} (h : Dsk w B d V n) (i : Nat) (hi : i < 240) :
    Calls Tryz.prog 10 #[.pointer (some ⟨d, 0, none⟩), .int .i64 (i : Int)] w fun e w' => e = .returned (.tuple #[.agg (pv (V i)), .nilIface]) ∧ Below w.heap.size w w' := by
  obtain ⟨g, v, F, L, h1, h2, h3⟩ := h
  rw [← h2 i hi]
  exact dread_any w B d g v F L i hi h1
theorem flushD {w : World} {B d : Nat} {V : Nat → B8} {n : Nat} (h : Dsk w B d V n) :
    Calls Tryz.prog 40 #[.pointer (some ⟨d, 0, none⟩)] w fun e w' => e = .returned .nilIface ∧ Dsk w' B d V 0 ∧ KT B isDisk w w' := by
  obtain ⟨g, v, F, L, h1, h2, h3⟩ := h
  refine (flush_any w B d g v F L h1).mono ?_
  rintro e w' ⟨rfl, h4, hk⟩
  exact ⟨rfl, ⟨g, _, _, _, h4, fun j hj => by rw [view_fl j L F (fun x hx => by rw [h1.len]; exact (h1.lpage x hx).1)]; exact h2 j hj, rfl⟩, hk⟩
theorem sizeD {w : World} {B d : Nat} {V : Nat → B8} {n : Nat} (h : Dsk w B d V n) : Calls Tryz.prog 32 #[.pointer (some ⟨d, 0, none⟩)] w fun e w' => e = .returned (.int .i64 240) ∧ w = w' := by
  obtain ⟨g, v, F, L, h1, h2, h3⟩ := h
  exact dsize_any w d g v h1.obj
set_option maxRecDepth 100000 in
set_option maxHeartbeats 1000000 in
theorem storeD {w : World} {B d : Nat} {V : Nat → B8} {n : Nat} (h : Dsk w B d V n) (i k : Nat) (l : B8) (hi : i < 240) (h1 : 1 ≤ k) (h2 : k ≤ 255) (hl : l.length ≤ 120) (hn : n < 100000) :
    Calls Tryz.prog 41 #[.pointer (some ⟨d, 0, none⟩), .int .i64 (i : Int), .int .i64 (k : Int), .string (strB l)] w fun e w' => e = .returned .nilIface ∧ Dsk w' B d (upd V i (laidP k l)) (n + 1) ∧ KT B isDisk w w' := by
  have LA := Lib.hid (fun w => flay_any k l h1 h2 hl w)
  have HPL := Lib.hid (laidP_length (k := k) (l := l) (by omega))
  have HH := Lib.hid h
  have SP := Lib.hid (show (Tryz.prog.info? 39).map (·.size) = some (pv (laidP k l)).size ∧ (pv (zeros 128)).size = (pv (laidP k l)).size from ⟨by rw [pv_size, HPL.out]; exact size39, by rw [pv_size, pv_size, HPL.out]; rfl⟩)
  go_enter Tryz.func41, Tryz.ntmps41
  go_wp2_with fail
  refine (LA.out _).mono ?_
  rintro e w1 ⟨rfl, hb1⟩
  obtain ⟨P, hP⟩ : ∃ P, P = w1.heap.size := ⟨_, rfl⟩
  obtain ⟨W1, hW1⟩ : ∃ W, W = w1.alloc (.cells Tryz.zeroCells39 39) := ⟨_, rfl⟩
  obtain ⟨W2, hW2⟩ : ∃ W, W = W1.setRow P (pv (laidP k l)) := ⟨_, rfl⟩
  have q1 : W1.heap[P]? = some (.cells (pv (zeros 128)) 39 (0, 0)) := by rw [hW1, hP, ← zero39]; exact heap_alloc_new _ _
  have Q1 := Lib.hid q1
  have Q2 := Lib.hid (show W2.heap[P]? = some (.cells (pv (laidP k l)) 39 (0, 0)) by rw [hW2]; exact setRow_has q1)
  have B2 := Lib.hid (show Below w.heap.size w W2 from hb1.trans (by rw [hW2]; exact below_setRow (by rw [hW1]; exact (Below.refl _ _).alloc hb1.size _) (by rw [hP]; exact hb1.size) _))
  have HP := Lib.hid hP
  have HW1 := Lib.hid hW1
  have HW2 := Lib.hid hW2.symm
  clear hb1 hP hW1 hW2 q1
  go_wp2_with (first | (rw [← HW1.out, ← HP.out]; refine wpList_store_row rfl 39 (.tmp 9) (.tmp 15) rfl P (pv (laidP k l)) rfl rfl 39 (pv (zeros 128)) Q1.out SP.out.1 SP.out.2 (pv_one _) ?_; rw [HW2.out]) | (refine wpList_load_row rfl 39 (.tmp 9) rfl P rfl 39 (pv (laidP k l)) (0, 0) _ Q2.out Tryz.underlying39 rfl SP.out.1 ?_))
  refine (writeD (HH.out.below B2.out) i _ hi HPL.out hn).mono ?_
  rintro e w3 ⟨rfl, hd, hk⟩
  have D3 := Lib.hid hd
  have K3 := Lib.hid ((KT.of_below B2.out B isDisk).trans hk)
  clear hd hk
  go_wp2_with fail
  go_ret
  exact ⟨rfl, D3.out, K3.out⟩
set_option maxRecDepth 100000 in
set_option maxHeartbeats 1000000 in
theorem loadD {w : World} {B d : Nat} {V : Nat → B8} {n : Nat} (h : Dsk w B d V n) (i k : Nat) (l : B8) (hi : i < 240) (h1 : 1 ≤ k) (h2 : k ≤ 255) (hl : l.length ≤ 120) (hV : V i = laidP k l) :
    Calls Tryz.prog 62 #[.pointer (some ⟨d, 0, none⟩), .int .i64 (i : Int), .int .i64 (k : Int)] w fun e w' => e = .returned (.tuple #[.string (strB l), .nilIface]) ∧ Below w.heap.size w w' := by
  have RD := Lib.hid (readD h i hi)
  rw [hV] at RD
  have HPL := Lib.hid (laidP_length (k := k) (l := l) (by omega))
  have SP := Lib.hid (show (Tryz.prog.info? 39).map (·.size) = some (pv (laidP k l)).size ∧ (pv (zeros 128)).size = (pv (laidP k l)).size from ⟨by rw [pv_size, HPL.out]; exact size39, by rw [pv_size, pv_size, HPL.out]; rfl⟩)
  have FR := Lib.hid (fun w => fread_laid k l h1 h2 hl w)
  clear h hV
  go_enter Tryz.func62, Tryz.ntmps62
  go_wp2_with fail
  refine RD.out.mono ?_
  rintro e w1 ⟨rfl, hb1⟩
  obtain ⟨P, hP⟩ : ∃ P, P = w1.heap.size := ⟨_, rfl⟩
  obtain ⟨W1, hW1⟩ : ∃ W, W = w1.alloc (.cells Tryz.zeroCells39 39) := ⟨_, rfl⟩
  obtain ⟨W2, hW2⟩ : ∃ W, W = W1.setRow P (pv (laidP k l)) := ⟨_, rfl⟩
  have q1 : W1.heap[P]? = some (.cells (pv (zeros 128)) 39 (0, 0)) := by rw [hW1, hP, ← zero39]; exact heap_alloc_new _ _
  have Q1 := Lib.hid q1
  have Q2 := Lib.hid (show W2.heap[P]? = some (.cells (pv (laidP k l)) 39 (0, 0)) by rw [hW2]; exact setRow_has q1)
  have B2 := Lib.hid (show Below w.heap.size w W2 from hb1.trans (by rw [hW2]; exact below_setRow (by rw [hW1]; exact (Below.refl _ _).alloc hb1.size _) (by rw [hP]; exact hb1.size) _))
  have HP := Lib.hid hP
  have HW1 := Lib.hid hW1
  have HW2 := Lib.hid hW2.symm
  clear hb1 hP hW1 hW2 q1
  go_wp2_with (first | (rw [← HW1.out, ← HP.out]; refine wpList_store_row rfl 39 (.tmp 8) (.tmp 16) rfl P (pv (laidP k l)) rfl rfl 39 (pv (zeros 128)) Q1.out SP.out.1 SP.out.2 (pv_one _) ?_; rw [HW2.out]) | (refine wpList_load_row rfl 39 (.tmp 8) rfl P rfl 39 (pv (laidP k l)) (0, 0) _ Q2.out Tryz.underlying39 rfl SP.out.1 ?_))
  refine (FR.out _).mono ?_
  rintro e w3 ⟨rfl, hb3⟩
  have B3 := Lib.hid (B2.out.trans (hb3.mono B2.out.size))
  clear hb3
  go_wp2_with fail
  go_ret2
  exact ⟨rfl, B3.out⟩
end Go.Proofs.YtnlolhlbpdmljaaGreatDoor
namespace Go.Proofs.YtnlolhlbpdmljaaGreatDoor
open Go.ChangeShapes Go.WideShapes Go.RowKit

theorem csum_blank : (csum (zeros 124) == 0) = false := by decide +kernel
theorem blank_ne : ((0 : Int) == (csum (zeros 124) : Int)) = false := by
  have h := csum_blank
  rw [beq_eq_false_iff_ne] at h ⊢
  omega
def frameTag : ByteArray := { data := #[102, 114, 97, 109, 101] }
set_option maxRecDepth 100000 in
set_option maxHeartbeats 1000000 in
theorem fread_blank (w : World) : Calls Tryz.prog 90 #[.agg (pv (zeros 128))] w fun e w' => ∃ g, e = .returned (.tuple #[.int .i64 0, .string (strB []), .iface 102 (.pointer (some ⟨g, 0, none⟩))]) ∧ ErrAt w' g frameTag 3 ∧ Below w.heap.size w w' := by
  obtain ⟨p, hp⟩ : ∃ p, p = zeros 128 := ⟨_, rfl⟩
  obtain ⟨P, hP⟩ : ∃ P, P = w.heap.size := ⟨_, rfl⟩
  obtain ⟨W1, hW1⟩ : ∃ W, W = w.alloc (.cells (pv p) 39) := ⟨_, rfl⟩
  have Q1 := Lib.hid (show W1.heap[P]? = some (.cells (pv p) 39 (0, 0)) by rw [hW1, hP]; exact heap_alloc_new _ _)
  have B1 := Lib.hid (show Below w.heap.size w W1 by rw [hW1]; exact (Below.refl _ _).alloc (Nat.le_refl _) _)
  have HP := Lib.hid hP
  have HW1 := Lib.hid hW1
  have T1 := Lib.hid (show (p.drop 0).take 4 = zeros 4 by rw [hp]; rfl)
  have T2 := Lib.hid (show (p.drop 4).take 124 = zeros 124 by rw [hp]; rfl)
  have GET := Lib.hid (fun w => get_any (zeros 4) 4 (by omega) (by omega) (by decide) (by decide) w)
  have HU := Lib.hid (show (unbe ((zeros 4).take 4) : Int) = 0 by rfl)
  rw [HU.out] at GET
  have SUM := Lib.hid (fun w => sum_any (strB (zeros 124)) (by rw [strB_size]; unfold zeros maxLen; simp) w)
  have HSM := Lib.hid (show un (sumP (strB (zeros 124)).data.toList) = csum (zeros 124) by rw [strB_list]; rfl)
  rw [HSM.out] at SUM
  have hbl : ((0 : Int) != wrap64 (csum (zeros 124) : Int)) = true := by
    have h := csum_lt (zeros 124)
    have h2 := blank_ne
    have h3 : wrap64 (csum (zeros 124) : Int) = (csum (zeros 124) : Int) := by unfold wrap64; omega
    rw [h3]; simp only [bne, h2]; rfl
  rw [← hp]
  clear hP hW1 hp
  go_enter Tryz.func90, Tryz.ntmps90
  go_upto_region 1 with fail
  rw [← HW1.out, ← HP.out]
  go_wp2_with (first | refine l_val rfl (run_slice_to4 (x := .tmp 1) rfl rfl rfl _) ?_ | refine l_val rfl (run_text_row (x := .tmp 11) rfl rfl Q1.out T1.out (by rfl)) ?_)
  refine (GET.out _).mono ?_
  rintro e w1 ⟨rfl, rfl⟩
  go_wp2_with (first | refine l_val rfl (run_slice_from4 (x := .tmp 1) rfl rfl rfl _) ?_ | refine l_val rfl (run_text_row (x := .tmp 17) rfl rfl Q1.out T2.out (by rfl)) ?_)
  refine (SUM.out _).mono ?_
  rintro e w2 ⟨rfl, hb2⟩
  have B2 := Lib.hid (B1.out.trans (hb2.mono B1.out.size))
  clear hb2
  go_wp2_with fail
  refine (tag_any _ _ _).mono ?_
  rintro e w3 ⟨rfl, he3, hb3⟩
  have E3 := Lib.hid he3
  have B3 := Lib.hid (B2.out.trans (hb3.mono B2.out.size))
  clear he3 hb3
  go_wp2_with fail
  go_ret3
  exact ⟨_, rfl, E3.out, B3.out⟩
set_option maxRecDepth 100000 in
set_option maxHeartbeats 1000000 in
/-- A sector never written: no frame lies in it. -/
theorem loadZ {w : World} {B d : Nat} {V : Nat → B8} {n : Nat} (h : Dsk w B d V n) (i k : Nat) (hi : i < 240) (hV : V i = zeros 128) :
    Calls Tryz.prog 62 #[.pointer (some ⟨d, 0, none⟩), .int .i64 (i : Int), .int .i64 (k : Int)] w fun e w' => ∃ g, e = .returned (.tuple #[.string (strB []), .iface 102 (.pointer (some ⟨g, 0, none⟩))]) ∧ ErrAt w' g frameTag 3 ∧ Below w.heap.size w w' := by
  have RD := Lib.hid (readD h i hi)
  rw [hV] at RD
  have SP := Lib.hid (show (Tryz.prog.info? 39).map (·.size) = some (pv (zeros 128)).size by rw [pv_size]; exact size39)
  have FR := Lib.hid fread_blank
  clear h hV
  go_enter Tryz.func62, Tryz.ntmps62
  go_wp2_with fail
  refine RD.out.mono ?_
  rintro e w1 ⟨rfl, hb1⟩
  obtain ⟨P, hP⟩ : ∃ P, P = w1.heap.size := ⟨_, rfl⟩
  obtain ⟨W1, hW1⟩ : ∃ W, W = w1.alloc (.cells Tryz.zeroCells39 39) := ⟨_, rfl⟩
  obtain ⟨W2, hW2⟩ : ∃ W, W = W1.setRow P (pv (zeros 128)) := ⟨_, rfl⟩
  have q1 : W1.heap[P]? = some (.cells (pv (zeros 128)) 39 (0, 0)) := by rw [hW1, hP, ← zero39]; exact heap_alloc_new _ _
  have Q1 := Lib.hid q1
  have Q2 := Lib.hid (show W2.heap[P]? = some (.cells (pv (zeros 128)) 39 (0, 0)) by rw [hW2]; exact setRow_has q1)
  have B2 := Lib.hid (show Below w.heap.size w W2 from hb1.trans (by rw [hW2]; exact below_setRow (by rw [hW1]; exact (Below.refl _ _).alloc hb1.size _) (by rw [hP]; exact hb1.size) _))
  have HP := Lib.hid hP
  have HW1 := Lib.hid hW1
  have HW2 := Lib.hid hW2.symm
  clear hb1 hP hW1 hW2 q1
  go_wp2_with (first | (rw [← HW1.out, ← HP.out]; refine wpList_store_row rfl 39 (.tmp 8) (.tmp 16) rfl P (pv (zeros 128)) rfl rfl 39 (pv (zeros 128)) Q1.out SP.out rfl (pv_one _) ?_; rw [HW2.out]) | (refine wpList_load_row rfl 39 (.tmp 8) rfl P rfl 39 (pv (zeros 128)) (0, 0) _ Q2.out Tryz.underlying39 rfl SP.out ?_))
  refine (FR.out _).mono ?_
  rintro e w3 ⟨g, rfl, he3, hb3⟩
  have E3 := Lib.hid he3
  have B3 := Lib.hid (B2.out.trans (hb3.mono B2.out.size))
  clear he3 hb3
  go_wp2_with fail
  go_ret2
  exact ⟨g, rfl, E3.out, B3.out⟩

def blanks : List B8 := List.replicate 240 (zeros 128)
theorem made_blank (z : Array Value) (hz : z = pv (zeros 128)) : madeCells z (240 * 128) = (pcells blanks).toArray := by
  have hzs : z.size = 128 := by rw [hz, pv_size]; rfl
  have hm : ∀ q ∈ blanks.map cellsB, q.length = 128 := fun x hx => by
    obtain ⟨q, hq, rfl⟩ := List.mem_map.1 hx
    rw [cellsB_length, List.eq_of_mem_replicate hq]; rfl
  have hl : (pcells blanks).length = 240 * 128 := by unfold pcells; rw [flat_length _ hm, List.length_map]; unfold blanks; rw [List.length_replicate]
  apply Array.ext
  · rw [size_madeCells, List.size_toArray, hl]
  · intro j h1 h2
    rw [size_madeCells] at h1
    have hj : j = j / 128 * 128 + j % 128 := by omega
    have h3 := flat_at (s := 128) (blanks.map cellsB) hm (j / 128) (j % 128) (by omega) (cellsB (zeros 128)) (by
      rw [List.getElem?_map]; unfold blanks; rw [List.getElem?_replicate, if_pos (by omega)]; rfl)
    rw [← hj] at h3
    have h4 : ∀ k, k < 128 → (cellsB (zeros 128))[k]? = some (.int .u8 0) := by
      intro k hk
      unfold cellsB zeros
      rw [List.getElem?_map, List.getElem?_replicate, if_pos hk]; rfl
    rw [h4 _ (by omega)] at h3
    have e1 : (madeCells z (240 * 128))[j]? = some (.int .u8 0) := by
      unfold madeCells
      rw [Array.getElem?_map, Array.getElem?_range, if_pos h1]
      simp only [Option.map_some, hzs]
      congr 1
      have : j % 128 < z.size := by omega
      rw [getElem!_pos z _ this]
      have h5 := h4 (j % 128) (by omega)
      have h6 : z[j % 128]? = some (.int .u8 0) := by rw [hz]; unfold pv; simpa using h5
      rw [Array.getElem?_eq_getElem this] at h6
      injection h6
    have e2 : ((pcells blanks).toArray)[j]? = some (.int .u8 0) := by
      unfold pcells
      simpa using h3
    rw [Array.getElem?_eq_getElem (by rw [size_madeCells]; exact h1)] at e1
    rw [Array.getElem?_eq_getElem h2] at e2
    injection e1 with e1
    injection e2 with e2
    rw [e1, e2]
theorem info39 : (Tryz.prog.info? 39).map (fun i => (i.zero, i.size, i.bytes)) = some (some (.agg (pv (zeros 128))), 128, 128) := by kernel_rfl
set_option maxRecDepth 100000 in
set_option maxHeartbeats 1000000 in
theorem dnew_any (w : World) : Calls Tryz.prog 5 #[.int .i64 240] w fun e w' => ∃ d, e = .returned (.tuple #[.pointer (some ⟨d, 0, none⟩), .nilIface]) ∧ Dsk w' w.heap.size d (fun _ => zeros 128) 0 ∧ Below w.heap.size w w' := by
  obtain ⟨i0, hi0, hz0, hz1, hz2⟩ := info_parts info39
  obtain ⟨G, hG⟩ : ∃ G, G = w.heap.size := ⟨_, rfl⟩
  obtain ⟨W1, hW1⟩ : ∃ W, W = w.alloc (.cells (pcells blanks).toArray 39) := ⟨_, rfl⟩
  have hr := run_makeSlice (P := Tryz.prog) w 62 39 i0 _ Tryz.underlying62 hi0 hz0 .i64 .i64 240 240 (by omega) (by omega) (by rw [hz1]; decide) (by rw [hz2]; decide) (by omega)
  rw [show (240 : Int).toNat * i0.size = 240 * 128 by rw [hz1]; rfl, made_blank (Value.agg (pv (zeros 128))).cells rfl, ← hW1, ← hG] at hr
  have RR := Lib.hid hr
  have X1 := Lib.hid (show W1.heap[G]? = some (.cells (pcells blanks).toArray 39 (0, 0)) by rw [hW1, hG]; exact heap_alloc_new _ _)
  have B1 := Lib.hid (show Below w.heap.size w W1 by rw [hW1]; exact (Below.refl _ _).alloc (Nat.le_refl _) _)
  have HG := Lib.hid hG
  clear hr hW1 hG hi0 hz0 hz1 hz2
  go_enter Tryz.func5, Tryz.ntmps5
  have hr := RR.out
  simp only [Int.reduceToNat] at hr
  go_wp2_with fail
  go_ret2
  have hb := (Below.refl W1.heap.size W1).alloc (Nat.le_refl _) (.cells #[.slice (some ⟨G, 0, none⟩) 240 240, .slice none 0 0, .bool false] 65)
  refine ⟨W1.heap.size, rfl, ⟨G, .slice none 0 0, blanks, [], ⟨heap_alloc_new _ _, (hb.block G (row_lt X1.out)).trans X1.out, by unfold blanks; rw [List.length_replicate], fun p hp => by rw [List.eq_of_mem_replicate hp]; rfl, World.ownsRow_nil _ _ _ _, by simp, by simp, B1.out.size, by rw [HG.out]; exact Nat.le_refl _⟩, fun i hi => ?_, rfl⟩, B1.out.trans (hb.mono B1.out.size)⟩
  unfold view vw blanks
  rw [List.foldl_nil, List.getD_eq_getElem?_getD, List.getElem?_replicate, if_pos hi]; rfl
end Go.Proofs.YtnlolhlbpdmljaaGreatDoor
