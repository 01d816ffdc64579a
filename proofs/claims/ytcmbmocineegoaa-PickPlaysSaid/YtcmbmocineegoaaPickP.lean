/-
  Who is picked, and in which order, are the document's: PickPlays answers true at every list of candidates, and writes nothing that was there.
  Conditions: none.
-/
import Derived.Test.YtcmbmocineegoaaRefB
import Derived.Laws.MakeOwn
namespace Go.Proofs.Ytcmbmocineegoaa
open Go.ChangeShapes Go.WideShapes Go.ChangeAt Go.RowKit

/-- The pairs of those that are not out. -/
def rem (l : List C3) (outs : List Bool) : List D := ((List.range l.length).filter (elig l outs)).map (fun j => key (at3 l j))
theorem rem_start (l : List C3) (outs : List Bool) (h : ∀ j, outs.getD j false = false) : rem l outs = keys l := by
  have e : l = (List.range l.length).map (at3 l) := by
    apply List.ext_getElem?
    intro i
    rw [List.getElem?_map]
    by_cases hi : i < l.length
    · rw [List.getElem?_range hi, at3_some hi]; rfl
    · rw [List.getElem?_eq_none (by omega), List.getElem?_eq_none (by simpa using hi)]; rfl
  unfold rem keys
  conv => rhs; rw [e, List.filter_map, List.map_map]
  have e2 : elig l outs = canC ∘ at3 l := by
    funext j
    unfold elig
    rw [h j]; rfl
  rw [e2]
  rfl
theorem rem_pick {l : List C3} {outs : List Bool} {q : Nat} (hq : q < l.length) (hl : outs.length = l.length) (he : elig l outs q = true) : (rem l outs).Perm (key (at3 l q) :: rem l (outs.set q true)) := by
  have h1 : ((List.range l.length).filter (elig l outs)).Perm (q :: (List.range l.length).filter (elig l (outs.set q true))) := by
    have hm : q ∈ (List.range l.length).filter (elig l outs) := List.mem_filter.2 ⟨List.mem_range.2 hq, he⟩
    have hn : ((List.range l.length).filter (elig l outs)).Nodup := List.nodup_range.filter _
    refine (List.perm_cons_erase hm).trans ?_
    rw [hn.erase_eq_filter, List.filter_filter]
    refine List.Perm.cons _ (List.Perm.of_eq (List.filter_congr (fun j hj => ?_)))
    unfold elig
    rw [List.getD_eq_getElem?_getD, List.getD_eq_getElem?_getD, List.getElem?_set]
    by_cases e : q = j
    · subst e; simp [hl, hq]
    · have e2 : j ≠ q := fun h => e h.symm
      simp [e, e2]
  exact h1.map _
theorem rem_none {l : List C3} {outs : List Bool} (h : ∀ j, j < l.length → elig l outs j = false) : rem l outs = [] := by
  unfold rem
  rw [List.filter_eq_nil_iff.2 (fun j hj => by rw [h j (List.mem_range.1 hj)]; simp)]
  rfl
theorem mem_rem {l : List C3} {outs : List Bool} {d : D} (h : d ∈ rem l outs) : ∃ j, j < l.length ∧ elig l outs j = true ∧ key (at3 l j) = d := by
  unfold rem at h
  rw [List.mem_map] at h
  obtain ⟨j, hj, e⟩ := h
  rw [List.mem_filter] at hj
  exact ⟨j, List.mem_range.1 hj.1, hj.2, e⟩
/-- What is picked next is the next of the order. -/
theorem pick_is {l : List C3} {outs : List Bool} {s : List D} {kk q : Nat} (hq : q < l.length) (hl : outs.length = l.length) (he : elig l outs q = true) (hmin : ∀ j, j < l.length → elig l outs j = true → less (key (at3 l j)) (key (at3 l q)) = false)
    (hri : Rising s) (hp : (rem l outs).Perm (s.drop kk)) : kk < s.length ∧ at_ s kk = key (at3 l q) ∧ (rem l (outs.set q true)).Perm (s.drop (kk + 1)) := by
  have h1 := rem_pick hq hl he
  have hlen : 0 < (s.drop kk).length := by rw [← hp.length_eq, h1.length_eq]; simp
  have hk : kk < s.length := by rw [List.length_drop] at hlen; omega
  have hd : s.drop kk = at_ s kk :: s.drop (kk + 1) := by
    have := at_some hk
    rw [List.getElem?_eq_getElem hk] at this
    rw [List.drop_eq_getElem_cons hk, Option.some.inj this]
  have hmem : at_ s kk ∈ rem l outs := hp.mem_iff.2 (by rw [hd]; simp)
  have hmem2 : key (at3 l q) ∈ s.drop kk := hp.mem_iff.1 (h1.mem_iff.2 (by simp))
  have e1 : less (at_ s kk) (key (at3 l q)) = false := by
    obtain ⟨j, hj, hej, e⟩ := mem_rem hmem
    rw [← e]; exact hmin j hj hej
  have e2 : less (key (at3 l q)) (at_ s kk) = false := by
    rw [hd] at hmem2
    rcases List.mem_cons.1 hmem2 with e | e
    · rw [e]; exact less_irrefl _
    · obtain ⟨j, hj, e3⟩ := List.getElem_of_mem e
      rw [List.length_drop] at hj
      rw [List.getElem_drop] at e3
      have h4 := at_some (show kk + 1 + j < s.length by omega)
      rw [List.getElem?_eq_getElem (show kk + 1 + j < s.length by omega), e3] at h4
      rw [Option.some.inj h4]
      exact rising_at hri (by omega) (by omega)
  have e := less_total e1 e2
  refine ⟨hk, e, ?_⟩
  rw [hd, e] at hp
  exact (List.perm_cons _).1 (h1.symm.trans hp)

theorem info4 : (Try.prog.info? 4).map (fun i => (i.zero, i.size, i.bytes)) = some (some (.bool false), 1, 1) := by kernel_rfl
theorem run_mkbools {ρ : Operand → Value} {o : Oper} {x y : Operand} (ho : o.op = .makeSlice 23 x y) {n : Nat} (hx : ρ x = .int .i64 (n : Int)) (hy : ρ y = .int .i64 (n : Int)) (hn : n ≤ 1000) (w : World) : (execOp ρ o).run Try.prog w = .ok (.value (.slice (some ⟨w.heap.size, 0, none⟩) n n)) (w.alloc (.cells (Array.replicate n (.bool false)) 4)) := by
  obtain ⟨i4, h4, z4, s4, b4⟩ := info_parts info4
  have h := run_makeSlice (P := Try.prog) w 23 4 i4 (.bool false) Try.underlying23 h4 z4 .i64 .i64 (n : Int) (n : Int) (by omega) (Int.le_refl _) (by rw [s4]; omega) (by rw [b4]; omega) (by omega)
  have e : madeCells (Value.bool false).cells (((n : Int)).toNat * i4.size) = Array.replicate n (.bool false) := by
    rw [s4, Int.toNat_natCast, Nat.mul_one]
    apply Array.ext
    · simp [madeCells]
    · intro i h1 h2
      simp [madeCells, Value.cells, Nat.mod_one]
  rw [e, Int.toNat_natCast] at h
  unfold execOp
  rw [ho]
  simp only [hx, hy, Sem.run_bind, h, Result.andThen_ok, Sem.run_pure]

/-- A row of truths, whole. -/
def ORow (w : World) (g : Nat) (outs : List Bool) : Prop := w.heap[g]? = some (.cells (outs.map Value.bool).toArray 4 (0, 0))
theorem ORow.below {w w' : World} {g : Nat} {outs : List Bool} (h : ORow w g outs) (hb : Below w.heap.size w w') : ORow w' g outs := (hb.block g (row_lt h)).trans h
theorem ORow.reads {w : World} {g : Nat} {outs : List Bool} (h : ORow w g outs) : BReads w w.heap.size (some ⟨g, 0, none⟩) outs := fun _ => ⟨_, rfl, row_lt h, fun j hj => by
  rw [addr_add, cell_of_row w g j _ 4 (0, 0) h]
  simp [hj]⟩
theorem ORow.set {w : World} {g : Nat} {outs : List Bool} (h : ORow w g outs) (q : Nat) : ORow (w.setCell ⟨g, q, none⟩ (.bool true)) g (outs.set q true) := by
  unfold ORow at *
  simp [World.setCell, Array.getElem?_modify, h]

set_option maxRecDepth 100000 in
set_option maxHeartbeats 2000000 in
theorem picks_run (w : World) (A : Option Addr) (c : Nat) (l : List C3) (hr : CReads w w.heap.size A l) (hl : l.length ≤ 60) :
    Calls Try.prog 9 #[.slice A l.length c] w fun e w' => e = .returned (.bool true) ∧ Below w.heap.size w w' := by
  have HR := Lib.hid hr
  have g1 : decide ((60 : Int) < (l.length : Int)) = false := decide_eq_false (by omega)
  have HLL := Lib.hid (show l.length ≤ 200 by omega)
  clear hr
  go_enter Try.func9, Try.ntmps9
  go_wp2_with fail
  refine (awake22_any _).mono ?_
  rintro e w1 ⟨rfl, hb1⟩
  have B1 := Lib.hid hb1
  clear hb1
  go_wp2_with fail
  refine (of_any w1 A c l ((HR.out.below B1.out).more B1.out.size) (by omega)).mono ?_
  rintro e w2 ⟨v2, rfl, hown2, hb2⟩
  obtain ⟨A2, c2, rfl, _, hrd2⟩ := own_creads hown2 rfl
  have R2 := Lib.hid hrd2
  have B2 := Lib.hid (B1.out.trans (hb2.mono B1.out.size))
  clear hown2 hb2 hrd2
  go_wp2_with fail
  refine (best_any w2 A2 c2 l R2.out (by omega)).mono ?_
  rintro e w3 ⟨s, rfl, hp3, hri3, hb3⟩
  have PE := Lib.hid hp3
  have RI := Lib.hid hri3
  have B3 := Lib.hid (B2.out.trans (hb3.mono B2.out.size))
  obtain ⟨n1, hn1⟩ : ∃ n, n = (at_ s 0).2 := ⟨_, rfl⟩
  obtain ⟨ok1, hok1⟩ : ∃ b, b = decide (0 < s.length) := ⟨_, rfl⟩
  rw [← hn1, ← hok1]
  have N1 := Lib.hid hn1
  have OK1 := Lib.hid hok1
  clear hp3 hri3 hb3 hn1 hok1
  go_wp2_with fail
  refine (of_any w3 A c l ((HR.out.below B3.out).more B3.out.size) (by omega)).mono ?_
  rintro e w4 ⟨v4, rfl, hown4, hb4⟩
  obtain ⟨A4, c4, rfl, _, hrd4⟩ := own_creads hown4 rfl
  have R4 := Lib.hid hrd4
  have B4 := Lib.hid (B3.out.trans (hb4.mono B3.out.size))
  clear hown4 hb4 hrd4
  go_wp2_with fail
  refine (order_any w4 A4 c4 l R4.out (by omega)).mono ?_
  rintro e w5 ⟨v5, s5, rfl, hown5, hp5, hri5, hb5⟩
  obtain rfl : s5 = s := rising_unique hri5 RI.out (hp5.trans PE.out.symm)
  have O5 := Lib.hid (own_base hown5 B4.out.size)
  have B5 := Lib.hid (B4.out.trans (hb5.mono B4.out.size))
  obtain ⟨Ao, co, rfl⟩ := own_slice hown5
  have hs60 : s5.length ≤ 60 := by have := PE.out.length_eq; have h2 := List.length_filter_le canC l; unfold keys at this; rw [List.length_map] at this; omega
  clear hown5 hp5 hri5 hb5
  obtain ⟨G, hG⟩ : ∃ u, u = w5.heap.size := ⟨_, rfl⟩
  obtain ⟨w6, hw6⟩ : ∃ u, u = w5.alloc (.cells (Array.replicate l.length (.bool false)) 4) := ⟨_, rfl⟩
  obtain ⟨outs0, ho0⟩ : ∃ u, u = List.replicate l.length false := ⟨_, rfl⟩
  have hb6 : Below w5.heap.size w5 w6 := by rw [hw6]; exact (Below.refl _ _).alloc (Nat.le_refl _) _
  have U6 := Lib.hid (show ORow w6 G outs0 by
    unfold ORow
    have e : (outs0.map Value.bool).toArray = Array.replicate l.length (.bool false) := by rw [ho0]; simp
    rw [e, hw6, hG]; exact heap_alloc_new w5 _)
  have O6 := Lib.hid (own_row O5.out (fun q hq => hb6.block q (own_lt O5.out hq).1))
  have B6 := Lib.hid (B5.out.trans (hb6.mono B5.out.size))
  have HGW := Lib.hid (show w.heap.size ≤ G by rw [hG]; exact B5.out.size)
  have HGO := Lib.hid (show ∀ q, (Value.slice Ao s5.length co).ownBlock = some q → q ≠ G from fun q hq => by rw [hG]; exact Nat.ne_of_lt (own_lt O5.out hq).1)
  have LEN0 := Lib.hid (show outs0.length = l.length by rw [ho0]; simp)
  have REM0 := Lib.hid (show (rem l outs0).Perm (s5.drop 0) by
    rw [rem_start l outs0 (fun j => by rw [ho0]; simp [List.getD_eq_getElem?_getD, List.getElem?_replicate]; split <;> rfl)]
    exact PE.out.symm)
  have HW6 := Lib.hid hw6
  have HG6 := Lib.hid hG
  have RB := Lib.hid (refbest_any w6 A c l ((HR.out.below B6.out).more B6.out.size) (some ⟨G, 0, none⟩) l.length l.length outs0 U6.out.reads LEN0.out rfl hl)
  clear hG hw6 ho0 hb6
  go_wp2_with (refine l_run rfl (run_mkbools (x := .tmp 27) (y := .tmp 27) rfl rfl rfl (by omega) _) ?_)
  rw [← HW6.out, ← HG6.out]
  refine RB.out.mono ?_
  rintro e w7 ⟨b7, rfl, hB7, hb7⟩
  have BT7 := Lib.hid hB7
  have U7 := Lib.hid (U6.out.below hb7)
  have O7 := Lib.hid (own_row O6.out (fun q hq => hb7.block q (own_lt O6.out hq).1))
  have B7 := Lib.hid (B6.out.trans (hb7.mono B6.out.size))
  clear hB7 hb7 U6 O6 B6 RB
  go_wp2_with fail
  go_loopw [7, 8] (fun kv bv wr => ∃ (kk : Nat) (bi : Int) (outs : List Bool), kv = .int .i64 kk ∧ bv = .int .i64 bi ∧ kk ≤ s5.length ∧ outs.length = l.length ∧ ORow wr G outs ∧ BestTo l outs l.length bi ∧ (rem l outs).Perm (s5.drop kk) ∧ wr.ownsRow w.heap.size 3 1 (.slice Ao s5.length co) s5.length (ids s5) ∧ Below w.heap.size w wr) (fun kv _ _ => s5.length - (intOf kv).toNat)
  case atStart => exact ⟨0, b7, outs0, rfl, rfl, by omega, LEN0.out, U7.out, BT7.out, REM0.out, O7.out, B7.out⟩
  case round =>
    obtain ⟨kk, bi, outs, rfl, rfl, hkk, hlen, hU, hBT, hrem, hO, hb⟩ := hrel
    have UU := Lib.hid hU
    have LEN := Lib.hid hlen
    have OO := Lib.hid hO
    have BB := Lib.hid hb
    clear hU hlen hO hb
    rcases hBT with ⟨rfl, hno⟩ | ⟨q, hql, rfl, heq, hmin⟩
    · have hnil : s5.drop kk = [] := by
        rw [rem_none hno] at hrem
        exact List.perm_nil.1 hrem.symm
      have hks : kk = s5.length := by rw [List.drop_eq_nil_iff] at hnil; omega
      subst hks
      clear hno hrem hnil
      rcases Nat.eq_zero_or_pos s5.length with h0 | h0
      · have hs0 : s5 = [] := List.eq_nil_of_length_eq_zero h0
        subst hs0
        obtain rfl : ok1 = false := by rw [OK1.out]; rfl
        obtain rfl : n1 = 0 := by rw [N1.out]; rfl
        go_wp2_with fail
        go_ret
        exact ⟨rfl, BB.out⟩
      · obtain rfl : ok1 = true := by rw [OK1.out]; exact decide_eq_true h0
        obtain rfl : n1 = (at_ s5 0).2 := N1.out
        obtain ⟨ado, rfl, _, hco⟩ := own_ints OO.out rfl h0
        have HC0 := Lib.hid (hco 0 h0)
        have HH0 := Lib.hid h0
        have hgt : decide ((0 : Int) < (s5.length : Int)) = true := decide_eq_true (by omega)
        clear hco
        go_wp2_with (first | refine l_val rfl (run_at_T Try.underlying49 size3 (x := .tmp 81) (y := .const (.int .i64 0)) (ad := ado) (i := 0) rfl rfl rfl HH0.out _) ?_ | refine l_val rfl (run_load_int (x := .tmp 82) rfl Try.underlying3 rfl HC0.out) ?_)
        go_ret
        exact ⟨rfl, BB.out⟩
    · obtain ⟨hks, hat, hrem2⟩ := pick_is hql LEN.out heq hmin RI.out hrem
      have HQL := Lib.hid hql
      have HKS := Lib.hid hks
      have HRM := Lib.hid hrem2
      have HNC := Lib.hid (show (!canC (at3 l q)) = false by unfold elig at heq; rw [Bool.and_eq_true] at heq; rw [heq.2]; rfl)
      have GE := Lib.hid (show decide ((s5.length : Int) ≤ (kk : Int)) = false from decide_eq_false (by omega))
      have NE := Lib.hid (show decide ((at_ s5 kk).2 ≠ (at3 l q).1) = false from decide_eq_false (fun h => h (by rw [hat]; rfl)))
      have HL0 := Lib.hid (show 0 < l.length by omega)
      obtain ⟨ad, rfl, _, _⟩ := HR.out (by omega)
      obtain ⟨ado, rfl, hadO, hco⟩ := own_ints OO.out rfl (show kk < s5.length from hks)
      have hd0 : decide ((0 : Int) ≤ (q : Int)) = true := decide_eq_true (by omega)
      clear hrem hrem2 hmin heq hat hks hql
      go_upto_region 10 with fail
      obtain ⟨w5', hw5⟩ : ∃ u, u = wr.drew := ⟨_, rfl⟩
      have HD5 := Lib.hid hw5.symm
      have hb5 : Below wr.heap.size wr w5' := by rw [hw5]; exact (Below.refl _ _).drew
      have U5 := Lib.hid (UU.out.below hb5)
      have O5' := Lib.hid (own_row OO.out (fun q hq => hb5.block q (own_lt OO.out hq).1))
      have B5' := Lib.hid (BB.out.trans (hb5.mono BB.out.size))
      have HR5 := Lib.hid ((HR.out.below B5'.out).more B5'.out.size)
      have HCL := Lib.hid (show ∀ w', Below w5'.heap.size w5' w' → w'.cell? (ad.add (q * 3)) = some (.int .i64 (at3 l q).1) ∧ w'.cell? ((ad.add (q * 3)).add 1) = some (.int .i64 (at3 l q).2.1) ∧ w'.cell? ((ad.add (q * 3)).add 2) = some (.int .i64 (at3 l q).2.2) from fun w' hb => creads_cell HR5.out hb HQL.out)
      have HCO := Lib.hid (show ∀ w', Below w5'.heap.size w5' w' → w'.cell? (ado.add (kk * 1)) = some (.int .i64 (at_ s5 kk).2) from fun w' hb => (hb.cell (by rw [block_add]; exact Nat.lt_of_lt_of_le hadO hb5.size)).trans ((hb5.cell (by rw [block_add]; exact hadO)).trans (hco kk HKS.out)))
      clear hw5 hb5 hco hadO
      go_cut [61] (fun r wx => r = .bool false ∧ Hid (Below w5'.heap.size w5' wx))
      case first =>
        refine g_region (fun w' => Below w5'.heap.size w5' w') 25 rfl (by kernel_rfl) ?_
        rw [HD5.out]
        refine g_take 0 rfl (some 37) rfl (by kernel_rfl) (by kernel_rfl) (by kernel_rfl) (fun _ _ _ h => h) rfl (fun w' hw' => run_move_is (.tmp 7) (.int .i64 (kk : Int)) rfl rfl w') (Below.refl _ _) ?_
        simp only [Act.put, List.setIfInBounds_toArray, List.set_cons_succ, List.set_cons_zero]
        refine g_take 1 rfl (some 38) rfl (by kernel_rfl) (by kernel_rfl) (by kernel_rfl) (fun _ _ _ h => h) rfl (fun w' hw' => run_move_is (.tmp 5) (.slice (some ado) s5.length co) rfl rfl w') (Below.refl _ _) ?_
        simp only [Act.put, List.setIfInBounds_toArray, List.set_cons_succ, List.set_cons_zero]
        refine g_take 2 rfl (some 39) rfl (by kernel_rfl) (by kernel_rfl) (by kernel_rfl) (fun _ _ _ h => h) rfl (fun w' hw' => run_len_T Try.underlying49 (x := .tmp 38) rfl rfl w') (Below.refl _ _) ?_
        simp only [Act.put, List.setIfInBounds_toArray, List.set_cons_succ, List.set_cons_zero]
        refine g_take 3 rfl (some 40) rfl (by kernel_rfl) (by kernel_rfl) (by kernel_rfl) (fun _ _ _ h => h) rfl (fun w' hw' => run_geq_i (x := .tmp 37) (y := .tmp 39) rfl rfl rfl false GE.out w') (Below.refl _ _) ?_
        simp only [Act.put, List.setIfInBounds_toArray, List.set_cons_succ, List.set_cons_zero]
        refine g_take 4 rfl (some 41) rfl (by kernel_rfl) (by kernel_rfl) (by kernel_rfl) (fun _ _ _ h => h) rfl (fun w' hw' => run_move_is (.tmp 40) (.bool false) rfl rfl w') (Below.refl _ _) ?_
        simp only [Act.put, List.setIfInBounds_toArray, List.set_cons_succ, List.set_cons_zero]
        refine g_take 5 rfl (some 42) rfl (by kernel_rfl) (by kernel_rfl) (by kernel_rfl) (fun _ _ _ h => h) rfl (fun w' hw' => run_move_is (.tmp 5) (.slice (some ado) s5.length co) rfl rfl w') (Below.refl _ _) ?_
        simp only [Act.put, List.setIfInBounds_toArray, List.set_cons_succ, List.set_cons_zero]
        refine g_take 6 rfl (some 43) rfl (by kernel_rfl) (by kernel_rfl) (by kernel_rfl) (fun _ _ _ h => h) rfl (fun w' hw' => run_move_is (.tmp 7) (.int .i64 (kk : Int)) rfl rfl w') (Below.refl _ _) ?_
        simp only [Act.put, List.setIfInBounds_toArray, List.set_cons_succ, List.set_cons_zero]
        refine g_take 7 rfl (some 44) rfl (by kernel_rfl) (by kernel_rfl) (by kernel_rfl) (fun _ _ _ h => h) rfl (fun w' hw' => run_at_T Try.underlying49 size3 (x := .tmp 42) (y := .tmp 43) (i := kk) rfl rfl rfl HKS.out w') (Below.refl _ _) ?_
        simp only [Act.put, List.setIfInBounds_toArray, List.set_cons_succ, List.set_cons_zero]
        refine g_take 8 rfl (some 45) rfl (by kernel_rfl) (by kernel_rfl) (by kernel_rfl) (fun _ _ _ h => h) rfl (fun w' hw' => run_load_int (x := .tmp 44) rfl Try.underlying3 rfl (HCO.out w' hw')) (Below.refl _ _) ?_
        simp only [Act.put, List.setIfInBounds_toArray, List.set_cons_succ, List.set_cons_zero]
        refine g_take 9 rfl (some 46) rfl (by kernel_rfl) (by kernel_rfl) (by kernel_rfl) (fun _ _ _ h => h) rfl (fun w' hw' => run_move_is (.tmp 0) (.slice (some ad) l.length c) rfl rfl w') (Below.refl _ _) ?_
        simp only [Act.put, List.setIfInBounds_toArray, List.set_cons_succ, List.set_cons_zero]
        refine g_take 10 rfl (some 47) rfl (by kernel_rfl) (by kernel_rfl) (by kernel_rfl) (fun _ _ _ h => h) rfl (fun w' hw' => run_move_is (.tmp 8) (.int .i64 (q : Int)) rfl rfl w') (Below.refl _ _) ?_
        simp only [Act.put, List.setIfInBounds_toArray, List.set_cons_succ, List.set_cons_zero]
        refine g_take 11 rfl (some 48) rfl (by kernel_rfl) (by kernel_rfl) (by kernel_rfl) (fun _ _ _ h => h) rfl (fun w' hw' => run_at_T Try.underlying44 size53 (x := .tmp 46) (y := .tmp 47) (i := q) rfl rfl rfl HQL.out w') (Below.refl _ _) ?_
        simp only [Act.put, List.setIfInBounds_toArray, List.set_cons_succ, List.set_cons_zero]
        refine g_take 12 rfl (some 49) rfl (by kernel_rfl) (by kernel_rfl) (by kernel_rfl) (fun _ _ _ h => h) rfl (fun w' hw' => run_fld53_0 (x := .tmp 48) rfl rfl w') (Below.refl _ _) ?_
        simp only [Act.put, List.setIfInBounds_toArray, List.set_cons_succ, List.set_cons_zero]
        refine g_take 13 rfl (some 50) rfl (by kernel_rfl) (by kernel_rfl) (by kernel_rfl) (fun _ _ _ h => h) rfl (fun w' hw' => run_load_int (x := .tmp 49) rfl Try.underlying3 rfl (HCL.out w' hw').1) (Below.refl _ _) ?_
        simp only [Act.put, List.setIfInBounds_toArray, List.set_cons_succ, List.set_cons_zero]
        refine g_take 14 rfl (some 51) rfl (by kernel_rfl) (by kernel_rfl) (by kernel_rfl) (fun _ _ _ h => h) rfl (fun w' hw' => run_neq_i (x := .tmp 45) (y := .tmp 50) rfl rfl rfl false NE.out w') (Below.refl _ _) ?_
        simp only [Act.put, List.setIfInBounds_toArray, List.set_cons_succ, List.set_cons_zero]
        refine g_take 15 rfl (some 52) rfl (by kernel_rfl) (by kernel_rfl) (by kernel_rfl) (fun _ _ _ h => h) rfl (fun w' hw' => run_pick_is (c := .tmp 41) (a := .const (.bool true)) (b := .tmp 51) rfl (t := false) rfl (.bool false) rfl w') (Below.refl _ _) ?_
        simp only [Act.put, List.setIfInBounds_toArray, List.set_cons_succ, List.set_cons_zero]
        refine g_take 16 rfl (some 53) rfl (by kernel_rfl) (by kernel_rfl) (by kernel_rfl) (fun _ _ _ h => h) rfl (fun w' hw' => run_move_is (.tmp 52) (.bool false) rfl rfl w') (Below.refl _ _) ?_
        simp only [Act.put, List.setIfInBounds_toArray, List.set_cons_succ, List.set_cons_zero]
        refine g_take 17 rfl (some 54) rfl (by kernel_rfl) (by kernel_rfl) (by kernel_rfl) (fun _ _ _ h => h) rfl (fun w' hw' => run_move_is (.tmp 0) (.slice (some ad) l.length c) rfl rfl w') (Below.refl _ _) ?_
        simp only [Act.put, List.setIfInBounds_toArray, List.set_cons_succ, List.set_cons_zero]
        refine g_take 19 rfl (some 56) rfl (by kernel_rfl) (by kernel_rfl) (by kernel_rfl) (fun _ _ _ h => h) rfl (fun w' hw' => run_move_is (.tmp 8) (.int .i64 (q : Int)) rfl rfl w') (Below.refl _ _) ?_
        simp only [Act.put, List.setIfInBounds_toArray, List.set_cons_succ, List.set_cons_zero]
        refine g_one 18 (by kernel_rfl) ?_
        refine g_call rfl (some 55) rfl rfl (run_call1 (u := .slice (some ad) l.length c) rfl Try.call24 rfl _) (of_any w5' (some ad) c l HR5.out HLL.out) ?_
        rintro e w6 ⟨v6, rfl, hown6, hb6⟩
        refine ⟨_, rfl, hb6, ?_⟩
        simp only [Act.put, List.setIfInBounds_toArray, List.set_cons_succ, List.set_cons_zero]
        obtain ⟨g6, cap6, rfl, _, hT6⟩ := trow_of_own hown6 rfl HL0.out
        have HX6 := Lib.hid (creads_cell hT6.reads (Below.refl _ _) HQL.out)
        refine g_one 20 (by kernel_rfl) ?_
        refine g_val rfl (some 57) rfl rfl (run_at_T Try.underlying47 size55 (x := .tmp 55) (y := .tmp 56) (ad := ⟨g6, 0, none⟩) (i := q) rfl rfl rfl HQL.out _) hb6 ?_
        simp only [Act.put, List.setIfInBounds_toArray, List.set_cons_succ, List.set_cons_zero]
        refine g_one 21 (by kernel_rfl) ?_
        refine g_val rfl (some 58) rfl rfl (run_load_triple Try.underlying55 size55 (x := .tmp 57) (d := at3 l q) rfl rfl HX6.out) hb6 ?_
        simp only [Act.put, List.setIfInBounds_toArray, List.set_cons_succ, List.set_cons_zero]
        refine g_one 22 (by kernel_rfl) ?_
        refine g_call rfl (some 59) rfl rfl (run_call1 (u := tv (at3 l q)) rfl Try.call27 rfl _) (can_any (at3 l q) w6) ?_
        rintro e w7 ⟨rfl, hb7⟩
        have hb57 : Below w5'.heap.size w5' w7 := hb6.trans (hb7.mono hb6.size)
        refine ⟨_, rfl, hb57, ?_⟩
        simp only [Act.put, List.setIfInBounds_toArray, List.set_cons_succ, List.set_cons_zero]
        refine g_one 23 (by kernel_rfl) ?_
        refine g_val rfl (some 60) rfl rfl (run_not_is (x := .tmp 59) rfl (b := canC (at3 l q)) rfl false HNC.out _) hb57 ?_
        simp only [Act.put, List.setIfInBounds_toArray, List.set_cons_succ, List.set_cons_zero]
        refine g_one 24 (by kernel_rfl) ?_
        refine g_val rfl (some 61) rfl rfl (run_pick_is (c := .tmp 53) (a := .const (.bool true)) (b := .tmp 60) rfl (t := false) rfl (.bool false) rfl _) hb57 ?_
        simp only [Act.put, List.setIfInBounds_toArray, List.set_cons_succ, List.set_cons_zero]
        refine g_done (by kernel_rfl) ?_
        go_wp2_with fail
        go_meet
        exact ⟨rfl, Lib.hid hb57⟩
      case rest =>
      obtain ⟨rfl, hbc⟩ := hcut
      have U8 := Lib.hid (U5.out.below hbc.out)
      have O8 := Lib.hid (own_row O5'.out (fun q hq => hbc.out.block q (own_lt O5'.out hq).1))
      have B8 := Lib.hid (B5'.out.trans (hbc.out.mono B5'.out.size))
      obtain ⟨U, rfl⟩ : ∃ U, U = wc := ⟨_, rfl⟩
      obtain ⟨w9, hw9⟩ : ∃ u, u = U.setCell ⟨G, q, none⟩ (.bool true) := ⟨_, rfl⟩
      have U9 := Lib.hid (show ORow w9 G (outs.set q true) by rw [hw9]; exact U8.out.set q)
      have O9 := Lib.hid (own_row O8.out (w' := w9) (fun r hr => by rw [hw9]; exact Below.heap_setCell _ _ _ _ (HGO.out r hr)))
      have B9 := Lib.hid (show Below w.heap.size w w9 by rw [hw9]; exact B8.out.setCell HGW.out _)
      have hcq : (U.cell? ⟨G, q, none⟩).isSome = true := by
        have h := U8.out.reads (by rw [LEN.out]; exact HL0.out)
        obtain ⟨_, e, _, hh⟩ := h
        cases e
        have h2 := hh q (by rw [LEN.out]; exact HQL.out)
        rw [addr_add] at h2
        rw [h2]; rfl
      obtain ⟨ov, hov⟩ := Option.isSome_iff_exists.1 hcq
      have hfz : U.frozen? ⟨G, q, none⟩ = false := by have h := U8.out; unfold ORow at h; simp [World.frozen?, h]
      have hql : q < l.length := HQL.out
      have LEN9 := Lib.hid (show (outs.set q true).length = l.length by rw [List.length_set]; exact LEN.out)
      have RB := Lib.hid (refbest_any w9 (some ad) c l ((HR.out.below B9.out).more B9.out.size) (some ⟨G, 0, none⟩) l.length l.length (outs.set q true) U9.out.reads LEN9.out rfl hl)
      have HW9 := Lib.hid hw9
      have hkk60 : kk ≤ 60 := by omega
      clear hw9 hcq hbc U5 O5' B5' HCL HCO HD5 UU OO BB
      go_wp2_with fail
      rw [← HW9.out]
      refine RB.out.mono ?_
      rintro e w10 ⟨b10, rfl, hB10, hb10⟩
      have U10 := Lib.hid (U9.out.below hb10)
      have O10 := Lib.hid (own_row O9.out (fun q hq => hb10.block q (own_lt O9.out hq).1))
      have B10 := Lib.hid (B9.out.trans (hb10.mono B9.out.size))
      have BT10 := Lib.hid hB10
      clear hB10 hb10
      go_wp2_with fail
      go_roundw
      case rel => exact ⟨kk + 1, b10, outs.set q true, by go_num, rfl, HKS.out, LEN9.out, U10.out, BT10.out, HRM.out, O10.out, B10.out⟩
      case measure => have := HKS.out; simp [intOf]; omega

set_option maxRecDepth 100000 in
set_option maxHeartbeats 1000000 in
theorem picks_long (w : World) (A : Option Addr) (c n : Nat)  (hn : n ≤ maxLen) (h : 60 < n) :
    Calls Try.prog 9 #[.slice A n c] w fun e w' => e = .returned (.bool true) ∧ Below w.heap.size w w' := by
  unfold maxLen at hn
  have g1 : decide ((60 : Int) < (n : Int)) = true := decide_eq_true (by omega)
  go_enter Try.func9, Try.ntmps9
  go_wp2_with fail
  refine (awake22_any _).mono ?_
  rintro e w1 ⟨rfl, hb1⟩
  go_wp2_with fail
  refine (awake22_any _).mono ?_
  rintro e w2 ⟨rfl, hb2⟩
  go_wp2
  go_ret
  exact ⟨rfl, (hb1.trans (hb2.mono hb1.size))⟩

theorem walk_pickPlays (w : World) (A : Option Addr) (c : Nat) (l : List C3) (hm : l.length ≤ maxLen) (hr : CReads w w.heap.size A l) (_hwf : ∀ j, j < l.length → -9223372036854775808 ≤ (at3 l j).2.2) :
    Calls Try.prog 9 #[.slice A l.length c] w fun e w' => e = .returned (.bool true) ∧ Below w.heap.size w w' := by
  by_cases h : 60 < l.length
  · exact picks_long w A c _ hm h
  · exact picks_run w A c l hr (by omega)

set_option maxRecDepth 100000 in
theorem pickPlays_lifted (os : Os) (started : os.Started) (H : Type) (enc : TypeId × Value → H) :
    ReturnsInHanded {} Try.checked os 9 .any (Rows.pickPlaysSpec.pre6 enc Try.prog Try.f9 Rows.pickPlaysRow.domain false) (Rows.pickPlaysSpec.post enc Try.prog Try.f9 false true false false) := by
  refine returnsInHanded_of_change (C := Try.checked) own started (by kernel_rfl) Try.func9
    (ChangeSpec.witness6 (enc := enc) (C := Try.checked) false ⟨#[], #[.slice none 0 0], []⟩ 8 (by kernel_rfl) (by kernel_rfl) (by kernel_rfl) (by kernel_rfl)) ?_
  intro W base args ds gs before hval0 hW hcnd hsz
  have hval : ∀ (j : Nat) t v, Try.f9.params[j]? = some t → args[j]? = some v → Value.okWide Try.prog W .any base t v := hval0
  have hW' := hW
  obtain ⟨p, q, hA0, hV, rfl, hfz, hnd⟩ := hW
  have hA : DataW.TrodAll enc Try.prog W 0 (fun _ => true) true Try.f9.params.toList args.toList ds p := hA0
  rw [Try.params9] at hA hval
  obtain ⟨v0, vs0, d0, ds0, p0, q0, hargs, rfl, rfl, h0, r0⟩ := trodAll_cons hA
  obtain ⟨rfl, rfl, rfl⟩ := trodAll_nil r0
  obtain rfl : args = #[v0] := by cases args; simp_all
  obtain ⟨rfl, rfl⟩ := trodVars_none hV
  have k0 := h0
  have lt0 : ∀ x ∈ p0, x.block < W.heap.size := by obtain ⟨m, hm⟩ := k0; exact DataW.trod_lt m _ _ _ hm
  obtain ⟨A0, c0, l0, rfl, hm0, hr0, hw0⟩ := open_cands (hval 0 44 v0 rfl rfl) h0
  clear hA0 hval0
  refine (walk_pickPlays W A0 c0 l0 hm0 hr0 hw0).mono fun e W' ⟨he, bel⟩ => ?_
  subst he
  exact ⟨_, rfl, _, _, _, [], _, [], hW', trodAll_mk1 (shut_bool Try.underlying4 _), (trodAll_cons_mk (Below.trod laidOut (by kernel_rfl) (of_decide_eq_true (by kernel_rfl)) k0 bel lt0) trodAll_mk0), rfl, bel.frame _, fun h => by cases h⟩

theorem pickPlays_holds : Rows.PickPlaysSaid :=
  OpenClaim.holds_of_wide 9 Try.f9 rfl rfl rfl rfl rfl rfl rfl ⟨rfl, rfl, rfl, rfl, rfl⟩ rfl rfl rfl rfl rfl (by kernel_rfl) Try.func9 (by kernel_rfl)
    (of_decide_eq_true (by kernel_rfl)) (by unfold Func.isWrapper; first | (rw [if_pos (by decide +kernel)]; kernel_rfl) | (rw [if_neg (by decide +kernel)]; exact ⟨rfl, rfl⟩))
    (fun os started H enc _ => pickPlays_lifted os started H enc)

#print axioms pickPlays_holds
end Go.Proofs.Ytcmbmocineegoaa
