/-
  WholePages: the walk.
  Conditions: none.
-/
import Derived.Test.YtnlolhlbpdmljaaGreatDoorWhB
namespace Go.Proofs.YtnlolhlbpdmljaaGreatDoor
open Go.ChangeShapes Go.WideShapes Go.RowKit
/-- A slice that came in reads as acts: their keys and values. -/
def AReads (w : World) (B : Nat) (A : Option Addr) (l : List (Nat × Nat)) : Prop :=
  0 < l.length → ∃ ad, A = some ad ∧ ad.block < B ∧ ∀ i, i < l.length → w.cell? ((ad.add (i * 3)).add 1) = some (.int .u8 ((l.getD i (0, 0)).1 : Int)) ∧ w.cell? ((ad.add (i * 3)).add 2) = some (.int .u32 ((l.getD i (0, 0)).2 : Int))
theorem add_block (a : Addr) (k : Nat) : (a.add k).block = a.block := by unfold Addr.add; split <;> rfl
theorem AReads.below {w w' : World} {B B' : Nat} {A : Option Addr} {l : List (Nat × Nat)} (h : AReads w B A l) (b : Below B w w') (hB : B ≤ B') : AReads w' B' A l := fun h0 => by
  obtain ⟨ad, e, hlt, hc⟩ := h h0
  refine ⟨ad, e, Nat.lt_of_lt_of_le hlt hB, fun i hi => ?_⟩
  have key : ∀ (q : Addr), q.block = ad.block → w'.cell? q = w.cell? q := fun q hq => b.cell (by rw [hq]; exact hlt)
  rw [key _ (by rw [add_block, add_block]), key _ (by rw [add_block, add_block])]
  exact hc i hi
theorem own_some {w : World} {B e size n : Nat} {v : Value} {xs : List Value} (h : w.ownsRow B e size v n xs) (hn : 0 < n) : ∃ g c, v = .slice (some ⟨g, 0, none⟩) n c := by
  rcases h.2 with ⟨rfl, h0⟩ | ⟨g, cap, cur, rfl, _⟩
  · omega
  · exact ⟨g, cap, rfl⟩
/-- So many pages, one behind the other. -/
def pagesV (V : Nat → B8) (l : List Nat) : List Value := (l.map fun p => cellsB (V p)).flatten
theorem pagesV_length {V : Nat → B8} (hV : ∀ p, p < 240 → (V p).length = 128) : ∀ {l : List Nat}, (∀ p ∈ l, p < 240) → (pagesV V l).length = l.length * 128 := by
  intro l
  induction l with
  | nil => intro _; rfl
  | cons a l ih =>
    intro h
    unfold pagesV at ih ⊢
    rw [List.map_cons, List.flatten_cons, List.length_append, ih (fun p hp => h p (List.mem_cons_of_mem _ hp)), cellsB_length, hV a (h a (List.mem_cons_self ..)), List.length_cons]
    omega
theorem pagesV_snoc (V : Nat → B8) (l : List Nat) (p : Nat) : pagesV V (l ++ [p]) = pagesV V l ++ cellsB (V p) := by unfold pagesV; simp
theorem info38 : (Tryz.prog.info? 38).map (fun i => (i.zero, i.size, i.bytes)) = some (some (.agg (pv (zeros 128))), 128, 128) := by kernel_rfl
theorem ints_at' {l : List Nat} {i y : Nat} (h : l[i]? = some y) : (ints l)[i]? = some (.int .i64 (y : Int)) := by unfold ints; rw [List.getElem?_map, h]; rfl
theorem take_next {l : List Nat} {i y : Nat} (h : l[i]? = some y) : l.take (i + 1) = l.take i ++ [y] := by rw [List.take_add_one, h]; rfl
theorem size38 : (Tryz.prog.info? 38).map (·.size) = some 128 := by kernel_rfl
theorem size46 : (Tryz.prog.info? 46).map (·.size) = some 3 := by kernel_rfl
section
variable {ρ : Operand → Value} {o : Oper}
theorem run_fld46_1 {x : Operand} (ho : o.op = .fieldAddr 46 x 1) {a : Addr} (hx : ρ x = .pointer (some a)) (w : World) : (execOp ρ o).run Tryz.prog w = .ok (.value (.pointer (some (a.add 1)))) w := by
  unfold execOp; rw [ho]; simp [hx, go_sem]
theorem run_fld46_2 {x : Operand} (ho : o.op = .fieldAddr 46 x 2) {a : Addr} (hx : ρ x = .pointer (some a)) (w : World) : (execOp ρ o).run Tryz.prog w = .ok (.value (.pointer (some (a.add 2)))) w := by
  unfold execOp; rw [ho]; simp [hx, go_sem]
theorem run_conv_u8 {x : Operand} (ho : o.op = .convert 5 3 x) {n : Nat} (hx : ρ x = .int .u8 (n : Int)) (hn : n < 256) (w : World) : (execOp ρ o).run Tryz.prog w = .ok (.value (.int .i64 (n : Int))) w := by
  unfold execOp
  rw [ho]
  have : IntKind.i64.wrap (n : Int) = (n : Int) := by rw [IntKind.wrap_i64]; omega
  simp [go_sem, hx, this]
theorem run_at37 {x y : Operand} (ho : o.op = .indexAddr 37 x y) {g n c i : Nat} (hx : ρ x = .slice (some ⟨g, 0, none⟩) n c) (hy : ρ y = .int .i64 (i : Int)) (hi : i < n) (w : World) : (execOp ρ o).run Tryz.prog w = .ok (.value (.pointer (some ⟨g, i * 128, none⟩))) w := by
  have h := run_at_T Tryz.underlying37 size38 ho hx hy hi w
  rw [addr_add] at h
  exact h
theorem run_at33 {x y : Operand} (ho : o.op = .indexAddr 33 x y) {g q n c i : Nat} (hx : ρ x = .slice (some ⟨g, q, none⟩) n c) (hy : ρ y = .int .i64 (i : Int)) (hi : i < n) (w : World) : (execOp ρ o).run Tryz.prog w = .ok (.value (.pointer (some ⟨g, q + i, none⟩))) w := by
  have h := run_at_T Tryz.underlying33 size3' ho hx hy hi w
  rw [addr_add2, Nat.mul_one] at h
  exact h
theorem run_neq_same {x y : Operand} (ho : o.op = .binOp .neq 39 x y 39) {p : B8} (hx : ρ x = .agg (pv p)) (hy : ρ y = .agg (pv p)) (hp : p.length = 128) (w : World) : (execOp ρ o).run Tryz.prog w = .ok (.value (.bool false)) w := by
  have h := run_neq_page ho hx hy hp hp w
  rw [decide_eq_false (by simp)] at h
  exact h
theorem run_load_at38 {x : Operand} (ho : o.op = .load 38 x) {X k : Nat} (hx : ρ x = .pointer (some ⟨X, k, none⟩)) {p : B8} {w : World} (h : ∀ j v, (cellsB p)[j]? = some v → w.cell? ⟨X, k + j, none⟩ = some v) (hp : p.length = 128) : (execOp ρ o).run Tryz.prog w = .ok (.value (.agg (pv p))) w := by
  have hr := run_loadAt_mid (P := Tryz.prog) w X k 38 (cellsB p) _ h Tryz.underlying38 rfl (by rw [cellsB_length, hp]; exact size38)
  unfold execOp
  rw [ho]
  simp only [hx, hr, Sem.run_bind, Result.andThen_ok, Sem.run_pure]
  rfl
end
theorem pagesV_at {V : Nat → B8} (hV : ∀ p, p < 240 → (V p).length = 128) : ∀ {l : List Nat}, (∀ p ∈ l, p < 240) → ∀ {i y : Nat}, l[i]? = some y → ∀ j, j < 128 → (pagesV V l)[i * 128 + j]? = (cellsB (V y))[j]? := by
  intro l
  induction l with
  | nil => intro _ i y h; cases h
  | cons a l ih =>
    intro hl i y h j hj
    have ha : (cellsB (V a)).length = 128 := by rw [cellsB_length, hV a (hl a (List.mem_cons_self ..))]
    have e : pagesV V (a :: l) = cellsB (V a) ++ pagesV V l := rfl
    rw [e]
    cases i with
    | zero =>
      have : a = y := by simpa using h
      subst this
      rw [List.getElem?_append_left (by omega), Nat.zero_mul, Nat.zero_add]
    | succ i =>
      rw [List.getElem?_append_right (by omega), ha]
      rw [show (i + 1) * 128 + j - 128 = i * 128 + j by omega]
      exact ih (fun p hp => hl p (List.mem_cons_of_mem _ hp)) (by simpa using h) j hj
theorem info38b : (Tryz.prog.info? 38).map (fun i => (i.size, i.bytes)) = some (128, 128) := by kernel_rfl
theorem zero38 : ((Tryz.prog.info? 38).bind (·.zero)).isSome = true := by kernel_rfl
theorem run_row38 {ρ : Operand → Value} {o : Oper} {x : Operand} (ho : o.op = .buildSlice 37 1 #[(0, x)]) {p : B8} (hx : ρ x = .agg (pv p)) (hl : p.length = 128) (w : World) : (execOp ρ o).run Tryz.prog w = .ok (.value (.slice (some ⟨w.heap.size, 0, none⟩) 1 1)) (w.alloc (.cells (pv p) 38)) := by
  obtain ⟨ie, hie, hsb⟩ := Option.map_eq_some_iff.1 info38b
  have hs : ie.size = 128 := congrArg Prod.fst hsb
  obtain ⟨z, hz⟩ := Option.isSome_iff_exists.1 zero38
  rw [hie] at hz
  have hz' : ie.zero = some z := hz
  obtain ⟨cs, hcs0⟩ : ∃ cs : List Value, cs = cellsB p := ⟨_, rfl⟩
  have hpv : pv p = cs.toArray := by rw [hcs0]; rfl
  have hl : cs.length = 128 := by rw [hcs0, cellsB_length, hl]
  rw [hpv] at hx ⊢
  have hr := run_buildSlice (P := Tryz.prog) w 37 38 1 #[(0, .agg cs.toArray)] cs.toArray ie z Tryz.underlying37 hie hz' (by rw [hs]; omega) (by rw [hs]; omega) (by
    obtain ⟨c0, hc0⟩ : ∃ c0, c0 = (Array.range (1 * ie.size)).map (z.cells[· % z.cells.size]!) := ⟨_, rfl⟩
    rw [← hc0]
    have hcs : c0.size = 128 := by rw [hc0]; simp [hs]
    obtain ⟨h1, h2⟩ := fold_set cs 0 0 c0
    have hf : (cs.zipIdx 0).foldl (fun cs x => cs.setIfInBounds (0 + x.2) x.1) c0 = cs.toArray := by
      apply Array.ext_getElem?
      intro j
      by_cases hj : j < 128
      · rw [h2 j (by omega), if_pos (by omega)]; simp
      · rw [Array.getElem?_eq_none (by omega), Array.getElem?_eq_none (by simp; omega)]
    have e : (cs.toArray).zipIdx = (cs.zipIdx 0).toArray := by simp
    simp only [Instr.fill, hs, Value.cells]
    rw [if_neg (by simp [hl, hcs])]
    rw [e, List.foldl_toArray' (h := by simp)]
    rw [Nat.zero_mul]
    exact congrArg some hf)
  unfold execOp
  rw [ho]
  simp only [List.map_toArray, List.map_cons, List.map_nil, hx, Sem.run_bind, hr, Result.andThen_ok, Sem.run_pure]
set_option maxRecDepth 100000 in
set_option maxHeartbeats 1000000 in
theorem walk_long (w : World) (A : Option Addr) (c n : Nat) (hm : n ≤ maxLen) (h60 : 60 < n) : Calls Tryz.prog 3 #[.slice A n c] w fun e w' => e = .returned (.bool true) ∧ Below w.heap.size w w' := by
  unfold maxLen at hm
  have g1 : (60 : Int) < (n : Int) := by omega
  go_enter Tryz.func3, Tryz.ntmps3
  go_wp2_with fail
  refine (goes_any _).mono ?_
  rintro e w1 ⟨rfl, hb1⟩
  go_wp2_with fail
  refine (goes_any _).mono ?_
  rintro e w2 ⟨rfl, hb2⟩
  go_wp2
  go_ret
  exact ⟨rfl, hb1.trans (hb2.mono hb1.size)⟩
set_option maxRecDepth 100000 in
set_option maxHeartbeats 8000000 in
theorem walk_run (W : World) (A : Option Addr) (c : Nat) (l : List (Nat × Nat)) (h60 : l.length ≤ 60) (hr : AReads W W.heap.size A l) (hk8 : ∀ i, (l.getD i (0, 0)).1 < 256) : Calls Tryz.prog 3 #[.slice A l.length c] W fun e w' => e = .returned (.bool true) ∧ Below W.heap.size W w' := by
  obtain ⟨i38, hi38, hz38, hs38, hb38⟩ := info_parts info38
  have zs128 : (Value.agg (pv (zeros 128))).cells.size = 128 := by kernel_rfl
  have HR := Lib.hid hr
  have K8 := Lib.hid hk8
  have g1 : ¬ (60 : Int) < (l.length : Int) := by omega
  have N60 := Lib.hid h60
  clear hr hk8
  go_enter Tryz.func3, Tryz.ntmps3
  go_wp2_with fail
  refine (goes_any _).mono ?_
  rintro e w1 ⟨rfl, hb1⟩
  have B1 := Lib.hid hb1
  clear hb1
  go_upto_region 3 with fail
  go_wp2_with fail
  refine (dnew_any w1).mono ?_
  rintro e w2 ⟨d, rfl, hd2, hb2⟩
  have D2 := Lib.hid hd2
  have B2 := Lib.hid hb2
  clear hd2 hb2
  go_wp2_with fail
  refine (format_any D2.out rfl rfl).mono ?_
  rintro e w3 ⟨P, rfl, hp3, hk3⟩
  have P3 := Lib.hid hp3
  have B3 := Lib.hid (B2.out.trans (hk3.below B2.out.size))
  clear hp3 hk3
  go_wp2_with fail
  refine (num_nil w3).mono ?_
  rintro e w4 ⟨rfl, rfl⟩
  go_wp2_with fail
  refine (num_nil w3).mono ?_
  rintro e w5 ⟨rfl, rfl⟩
  go_upto_region 7 with fail
  go_wp2_with fail
  clear g1
  go_loopw [7] (fun i' wr => ∃ (k : Nat) (V : Nat → B8) (s : SupT) (T : List Nat), i' = .int .i64 k ∧ k ≤ l.length ∧ Whole V s T k ∧ PAt wr w1.heap.size P d V 0 s E30 E30 ∧ Below w1.heap.size w1 wr) (fun i' _ => l.length - (RowKit.intOf i').toNat)
  case atStart => exact ⟨0, _, _, [], rfl, by omega, whole_new, P3.out, B3.out⟩
  case round =>
    obtain ⟨k, V, s, T, rfl, hk, hwh, hpa, hbl⟩ := hrel
    have WH := Lib.hid hwh
    have PA := Lib.hid hpa
    have BL := Lib.hid hbl
    clear hwh hpa hbl P3 B3 D2
    by_cases hlt : k < l.length
    · have HLT := Lib.hid hlt
      have K60 := Lib.hid (show k < 60 by omega)
      go_upto_region 10 with fail
      go_wp2_with fail
      refine (proot_any PA.out).mono ?_
      rintro e w4 ⟨rfl, rfl⟩
      go_wp2_with fail
      refine (WH.out.pages (by have := K60.out; omega) PA.out).mono ?_
      rintro e w5 ⟨v5, lw, rfl, hperm, hown, hb5⟩
      obtain ⟨Aw, cw, rfl⟩ := own_slice hown
      have PERM := Lib.hid hperm
      have R5 := Lib.hid (RowAt.own hown)
      have P5 := Lib.hid (PA.out.below hb5)
      have BL5 := Lib.hid (BL.out.trans (hb5.mono BL.out.size))
      have hlen := hperm.length_eq
      have hmemT : ∀ p ∈ lw, p ∈ T := fun p hp => hperm.mem_iff.1 hp
      have MEM := Lib.hid hmemT
      have LW := Lib.hid (show lw.length ≤ 119 by
        rcases WH.out.few (by have := K60.out; omega) with ⟨_, h1⟩ | ⟨_, _, _, h1, _⟩
        · rw [hlen, h1]; simp
        · rw [hlen]; exact h1)
      clear hperm hown hb5 hlen hmemT hk
      go_wp2_with fail
      go_loopw [10, 11] (fun o i wr2 => ∃ q : Nat, i = .int .i64 q ∧ q ≤ lw.length ∧ wr2.ownsRow w5.heap.size 38 128 o q (pagesV V (lw.take q)) ∧ Below w5.heap.size w5 wr2) (fun _ i _ => lw.length - (RowKit.intOf i).toNat)
      case atStart => exact ⟨0, rfl, by omega, ⟨rfl, .inl ⟨rfl, rfl⟩⟩, Below.refl _ _⟩
      case round =>
        obtain ⟨q, rfl, hq, ho6, hb6⟩ := hrel
        have O6 := Lib.hid ho6
        have B6 := Lib.hid hb6
        by_cases hltq : q < lw.length
        · have HLQ := Lib.hid hltq
          obtain ⟨pg, hpg⟩ : ∃ y, lw[q]? = some y := ⟨_, List.getElem?_eq_getElem hltq⟩
          obtain ⟨gw, ow, rfl, hcq, _⟩ := (R5.out.below hb6).at.2 q _ (ints_at' hpg)
          have hpgr := WH.out.range pg (MEM.out pg (List.mem_of_getElem? hpg))
          have RD := Lib.hid (readD (P5.out.below hb6).dsk pg hpgr.2)
          have PL := Lib.hid ((P5.out.below hb6).dsk.length pg hpgr.2)
          have HPG := Lib.hid hpg
          clear ho6 hb6 hpg hpgr
          go_upto_region 15 with fail
          go_wp2_with fail
          clear hcq
          refine RD.out.mono ?_
          rintro e w7 ⟨rfl, hb7⟩
          obtain ⟨G, hG⟩ : ∃ P, P = w7.heap.size := ⟨_, rfl⟩
          obtain ⟨W1, hW1⟩ : ∃ W, W = w7.alloc (.cells Tryz.zeroCells39 39) := ⟨_, rfl⟩
          obtain ⟨W2, hW2⟩ : ∃ W, W = W1.setRow G (pv (V pg)) := ⟨_, rfl⟩
          obtain ⟨X, hX⟩ : ∃ P, P = W2.heap.size := ⟨_, rfl⟩
          obtain ⟨W3, hW3⟩ : ∃ W, W = W2.alloc (.cells (pv (V pg)) 38) := ⟨_, rfl⟩
          have q1 : W1.heap[G]? = some (.cells (pv (zeros 128)) 39 (0, 0)) := by rw [hW1, hG, ← zero39]; exact heap_alloc_new _ _
          have q2 : W2.heap[G]? = some (.cells (pv (V pg)) 39 (0, 0)) := by rw [hW2]; exact setRow_has q1
          have b2 : Below w7.heap.size w7 W2 := by rw [hW2]; exact below_setRow (by rw [hW1]; exact (Below.refl _ _).alloc (Nat.le_refl _) _) (by omega) _
          have b3 : Below W2.heap.size W2 W3 := by rw [hW3]; exact (Below.refl _ _).alloc (Nat.le_refl _) _
          have b23 := b2.trans (b3.mono b2.size)
          have b73 := hb7.trans (b23.mono hb7.size)
          have Q1 := Lib.hid q1
          have Q2 := Lib.hid q2
          have X3 := Lib.hid (show W3.heap[X]? = some (.cells (pv (V pg)) 38 (0, 0)) by rw [hW3, hX]; exact heap_alloc_new _ _)
          have O7 := Lib.hid (own_row O6.out (fun r hr => b73.block r (own_lt O6.out hr).1))
          have B7 := Lib.hid (B6.out.trans (b73.mono B6.out.size))
          have SP := Lib.hid (show (Tryz.prog.info? 39).map (·.size) = some (pv (V pg)).size ∧ (pv (zeros 128)).size = (pv (V pg)).size from ⟨by rw [pv_size, PL.out]; exact size39, by rw [pv_size, pv_size, PL.out]; rfl⟩)
          have A3 := Lib.hid (show ∀ (ρ : Operand → Value) (o : Oper), (execOp ρ o).run Tryz.prog W2 = .ok (.value (.slice (some ⟨W2.heap.size, 0, none⟩) 1 1)) (W2.alloc (.cells (pv (V pg)) 38)) → (execOp ρ o).run Tryz.prog W2 = .ok (.value (.slice (some ⟨X, 0, none⟩) 1 1)) W3 from fun ρ o h => by rw [← hW3, ← hX] at h; exact h)
          have NX := Lib.hid (show pagesV V (lw.take (q + 1)) = pagesV V (lw.take q) ++ cellsB (V pg) by rw [take_next HPG.out, pagesV_snoc])
          have HG := Lib.hid hG
          have HW1 := Lib.hid hW1
          have HW2 := Lib.hid hW2.symm
          clear hb7 hG hW1 hW2 hX hW3 q1 q2 b2 b3 b23 b73
          go_upto_region 16 with (rw [← HW1.out, ← HG.out]; refine wpList_store_row rfl 39 (.tmp 12) (.tmp 75) rfl G (pv (V pg)) rfl rfl 39 (pv (zeros 128)) Q1.out SP.out.1 SP.out.2 (pv_one _) ?_; rw [HW2.out])
          refine wp_region_lit ?_
          refine l_is (.move (.tmp 10)) rfl rfl (run_move_is (.tmp 10) u10 rfl rfl _) ?_
          simp only [Act.put, List.setIfInBounds_toArray, List.set_cons_succ, List.set_cons_zero]
          refine l_is (.load 39 (.tmp 12)) rfl rfl (run_load_page (x := .tmp 12) rfl rfl Q2.out PL.out) ?_
          simp only [Act.put, List.setIfInBounds_toArray, List.set_cons_succ, List.set_cons_zero]
          refine l_go (.buildSlice 37 1 #[(0, .tmp 78)]) rfl rfl (A3.out _ _ (run_row38 (x := .tmp 78) rfl rfl PL.out _)) ?_
          simp only [Act.put, List.setIfInBounds_toArray, List.set_cons_succ, List.set_cons_zero]
          refine wpList_append_any _ rfl (.tmp 77) (.tmp 79) 37 rfl w5.heap.size 38 i38 _ 128 128 Tryz.underlying37 hi38 hz38 hs38 hb38 zs128 (by omega) u10 q (pagesV V (lw.take q)) rfl O7.out _ (some ⟨X, 0, none⟩) 1 1 (cellsB (V pg)) rfl (reads_news X3.out (by rw [cellsB_length, PL.out])) (cellsB_one _) (by have := HLQ.out; have := LW.out; unfold maxLen; omega) (by have := HLQ.out; have := LW.out; omega) B7.out.size ?_
          intro v8 w8 hown8 hgr8 hat8
          simp only [Act.put, List.setIfInBounds_toArray, List.set_cons_succ, List.set_cons_zero]
          have NO := Lib.hid (show w8.ownsRow w5.heap.size 38 128 v8 (q + 1) (pagesV V (lw.take (q + 1))) by rw [NX.out]; exact hown8)
          have NB := Lib.hid (B7.out.grown hgr8 B7.out.size (fun r hr => (own_lt O7.out hr).2))
          clear hown8 hgr8 hat8
          have hq200 : q ≤ 200 := by have := HLQ.out; have := LW.out; omega
          clear hltq hq
          go_wp2
          go_roundw
          case rel => exact ⟨q + 1, by go_num, HLQ.out, NO.out, NB.out⟩
          case measure => have := HLQ.out; simp [RowKit.intOf]; omega
        · have hqe : q = lw.length := by omega
          have hke : lw.take q = lw := List.take_of_length_le (by omega)
          rw [hke, hqe] at ho6
          have OL := Lib.hid ho6
          have PB := Lib.hid (P5.out.below hb6)
          have BB := Lib.hid (BL5.out.trans (hb6.mono BL5.out.size))
          have RW := Lib.hid (R5.out.below hb6)
          obtain ⟨w9, hw9⟩ : ∃ u, u = wr := ⟨_, rfl⟩
          rw [← hw9] at OL PB BB RW ⊢
          clear hw9
          have hin := HR.out.below (B1.out.trans (BB.out.mono B1.out.size)) (Nat.le_refl _)
          obtain ⟨ad, rfl, hadb, hin⟩ := hin (by omega)
          obtain ⟨hi1, hi2⟩ := hin k hlt
          obtain ⟨key, hkey⟩ : ∃ y, y = (l.getD k (0, 0)).1 := ⟨_, rfl⟩
          obtain ⟨val, hval⟩ : ∃ y, y = (l.getD k (0, 0)).2 := ⟨_, rfl⟩
          rw [← hkey] at hi1
          rw [← hval] at hi2
          have KEY := Lib.hid (show key < 256 by rw [hkey]; exact K8.out k)
          have CIN := Lib.hid (show ∀ w', Below w1.heap.size w9 w' → (w'.cell? ((ad.add (k * 3)).add 1) = some (.int .u8 (key : Int)) ∧ w'.cell? ((ad.add (k * 3)).add 2) = some (.int .u32 (val : Int))) from fun w' b => ⟨(b.cell (p := (ad.add (k * 3)).add 1) (by rw [add_block, add_block]; have := B1.out.size; omega)).trans hi1, (b.cell (p := (ad.add (k * 3)).add 2) (by rw [add_block, add_block]; have := B1.out.size; omega)).trans hi2⟩)
          clear ho6 hb6 hq hqe hke hin hi1 hi2 hkey hval hadb
          go_upto_region 17 with fail
          clear hltq
          obtain ⟨v0, hv0⟩ : ∃ u, u = w9.drew := ⟨_, rfl⟩
          have BD : Below w9.heap.size w9 v0 := by rw [hv0]; exact (Below.refl _ _).drew
          have PD := Lib.hid (PB.out.below BD)
          have OD := Lib.hid (own_row OL.out (fun r hr => BD.block r (own_lt OL.out hr).1))
          have RD := Lib.hid (RW.out.below BD)
          have B9 := Lib.hid (BB.out.trans (BD.mono BB.out.size))
          have BW := Lib.hid (BD.mono BB.out.size)
          have CD := Lib.hid (fun (w' : World) (h : (fun (_ : Bool) (w' : World) => (w'.cell? ((ad.add (k * 3)).add 1) = some (.int .u8 (key : Int)) ∧ w'.cell? ((ad.add (k * 3)).add 2) = some (.int .u32 (val : Int)))) false w') => show (fun (_ : Bool) (w' : World) => (w'.cell? ((ad.add (k * 3)).add 1) = some (.int .u8 (key : Int)) ∧ w'.cell? ((ad.add (k * 3)).add 2) = some (.int .u32 (val : Int)))) true w' from h)
          have CS := Lib.hid (CIN.out v0 BW.out)
          have HV0 := Lib.hid hv0.symm
          clear hv0 BD
          refine k_region [] (fun (_ : Bool) (w' : World) => (w'.cell? ((ad.add (k * 3)).add 1) = some (.int .u8 (key : Int)) ∧ w'.cell? ((ad.add (k * 3)).add 2) = some (.int .u32 (val : Int)))) 21 rfl (by kernel_rfl) ?_
          rw [HV0.out]
          refine k_take 0 rfl (some 82) rfl (by kernel_rfl) (by kernel_rfl) (by kernel_rfl) (fun _ _ _ h => h) (by kernel_rfl) (by kernel_rfl) CD.out rfl (fun w' hw' => run_move_is (.tmp 5) (.pointer (some ⟨P, 0, none⟩)) rfl rfl w') CS.out ?_
          simp only [Act.put, List.setIfInBounds_toArray, List.set_cons_succ, List.set_cons_zero]
          refine k_take 1 rfl (some 83) rfl (by kernel_rfl) (by kernel_rfl) (by kernel_rfl) (fun _ _ _ h => h) (by kernel_rfl) (by kernel_rfl) CD.out rfl (fun w' hw' => run_move_is (.tmp 5) (.pointer (some ⟨P, 0, none⟩)) rfl rfl w') CS.out ?_
          simp only [Act.put, List.setIfInBounds_toArray, List.set_cons_succ, List.set_cons_zero]
          refine k_take 3 rfl (some 85) rfl (by kernel_rfl) (by kernel_rfl) (by kernel_rfl) (fun _ _ _ h => h) (by kernel_rfl) (by kernel_rfl) CD.out rfl (fun w' hw' => run_move_is (.tmp 0) (.slice (some ad) l.length c) rfl rfl w') CS.out ?_
          simp only [Act.put, List.setIfInBounds_toArray, List.set_cons_succ, List.set_cons_zero]
          refine k_take 4 rfl (some 86) rfl (by kernel_rfl) (by kernel_rfl) (by kernel_rfl) (fun _ _ _ h => h) (by kernel_rfl) (by kernel_rfl) CD.out rfl (fun w' hw' => run_move_is (.tmp 7) (.int .i64 (k : Int)) rfl rfl w') CS.out ?_
          simp only [Act.put, List.setIfInBounds_toArray, List.set_cons_succ, List.set_cons_zero]
          refine k_take 5 rfl (some 87) rfl (by kernel_rfl) (by kernel_rfl) (by kernel_rfl) (fun _ _ _ h => h) (by kernel_rfl) (by kernel_rfl) CD.out rfl (fun w' hw' => run_at_T Tryz.underlying22 size46 (x := .tmp 85) (y := .tmp 86) rfl rfl rfl HLT.out w') CS.out ?_
          simp only [Act.put, List.setIfInBounds_toArray, List.set_cons_succ, List.set_cons_zero]
          refine k_take 6 rfl (some 88) rfl (by kernel_rfl) (by kernel_rfl) (by kernel_rfl) (fun _ _ _ h => h) (by kernel_rfl) (by kernel_rfl) CD.out rfl (fun w' hw' => run_fld46_1 (x := .tmp 87) rfl rfl w') CS.out ?_
          simp only [Act.put, List.setIfInBounds_toArray, List.set_cons_succ, List.set_cons_zero]
          refine k_take 7 rfl (some 89) rfl (by kernel_rfl) (by kernel_rfl) (by kernel_rfl) (fun _ _ _ h => h) (by kernel_rfl) (by kernel_rfl) CD.out rfl (fun w' hw' => run_load_int (x := .tmp 88) rfl Tryz.underlying5 rfl hw'.1) CS.out ?_
          simp only [Act.put, List.setIfInBounds_toArray, List.set_cons_succ, List.set_cons_zero]
          refine k_take 8 rfl (some 90) rfl (by kernel_rfl) (by kernel_rfl) (by kernel_rfl) (fun _ _ _ h => h) (by kernel_rfl) (by kernel_rfl) CD.out rfl (fun w' hw' => run_conv_u8 (x := .tmp 89) rfl rfl KEY.out w') CS.out ?_
          simp only [Act.put, List.setIfInBounds_toArray, List.set_cons_succ, List.set_cons_zero]
          refine k_take 9 rfl (some 91) rfl (by kernel_rfl) (by kernel_rfl) (by kernel_rfl) (fun _ _ _ h => h) (by kernel_rfl) (by kernel_rfl) CD.out rfl (fun w' hw' => run_move_is (.tmp 0) (.slice (some ad) l.length c) rfl rfl w') CS.out ?_
          simp only [Act.put, List.setIfInBounds_toArray, List.set_cons_succ, List.set_cons_zero]
          refine k_take 10 rfl (some 92) rfl (by kernel_rfl) (by kernel_rfl) (by kernel_rfl) (fun _ _ _ h => h) (by kernel_rfl) (by kernel_rfl) CD.out rfl (fun w' hw' => run_move_is (.tmp 7) (.int .i64 (k : Int)) rfl rfl w') CS.out ?_
          simp only [Act.put, List.setIfInBounds_toArray, List.set_cons_succ, List.set_cons_zero]
          refine k_take 11 rfl (some 93) rfl (by kernel_rfl) (by kernel_rfl) (by kernel_rfl) (fun _ _ _ h => h) (by kernel_rfl) (by kernel_rfl) CD.out rfl (fun w' hw' => run_at_T Tryz.underlying22 size46 (x := .tmp 91) (y := .tmp 92) rfl rfl rfl HLT.out w') CS.out ?_
          simp only [Act.put, List.setIfInBounds_toArray, List.set_cons_succ, List.set_cons_zero]
          refine k_take 12 rfl (some 94) rfl (by kernel_rfl) (by kernel_rfl) (by kernel_rfl) (fun _ _ _ h => h) (by kernel_rfl) (by kernel_rfl) CD.out rfl (fun w' hw' => run_fld46_2 (x := .tmp 93) rfl rfl w') CS.out ?_
          simp only [Act.put, List.setIfInBounds_toArray, List.set_cons_succ, List.set_cons_zero]
          refine k_take 13 rfl (some 95) rfl (by kernel_rfl) (by kernel_rfl) (by kernel_rfl) (fun _ _ _ h => h) (by kernel_rfl) (by kernel_rfl) CD.out rfl (fun w' hw' => run_load_int (x := .tmp 94) rfl Tryz.underlying44 rfl hw'.2) CS.out ?_
          simp only [Act.put, List.setIfInBounds_toArray, List.set_cons_succ, List.set_cons_zero]
          refine k_one 2 (by kernel_rfl) ?_
          refine k_call rfl (some 84) rfl rfl false (by kernel_rfl) (run_call1 (x := .tmp 83) rfl Tryz.call9 rfl _) (proot_any PD.out) ?_
          rintro e w10 ⟨rfl, rfl⟩
          refine ⟨_, rfl, CS.out, ?_⟩
          simp only [Act.put, List.setIfInBounds_toArray, List.set_cons_succ, List.set_cons_zero]
          refine k_one 14 (by kernel_rfl) ?_
          refine k_call rfl (some 96) rfl rfl false (by kernel_rfl) (run_call1 (x := .tmp 95) rfl Tryz.call12 rfl _) (val_any v0 val) ?_
          rintro e w10 ⟨bs, hbs, rfl, hb10⟩
          have P10 := Lib.hid (PD.out.below hb10)
          have O10 := Lib.hid (own_row OD.out (fun r hr => hb10.block r (own_lt OD.out hr).1))
          have R10 := Lib.hid (RD.out.below hb10)
          have B10 := Lib.hid (B9.out.trans (hb10.mono B9.out.size))
          have BW10 := Lib.hid (BW.out.trans (hb10.mono B9.out.size))
          have HBS := Lib.hid hbs
          clear hb10 hbs
          refine ⟨_, rfl, CIN.out _ BW10.out, ?_⟩
          simp only [Act.put, List.setIfInBounds_toArray, List.set_cons_succ, List.set_cons_zero]
          refine k_one 15 (by kernel_rfl) ?_
          refine k_call rfl (some 97) rfl rfl false (by kernel_rfl) (run_call4 (x := .tmp 82) (y := .tmp 84) (z := .tmp 90) (t := .tmp 96) rfl Tryz.call11 rfl rfl rfl rfl _) (WH.out.put K60.out P10.out key bs HBS.out (by have := KEY.out; omega)) ?_
          rintro e w11 ⟨V', m', Fr', Go', r, ps', K', h', rfl, hp11, hk11, ht11, hpt11, hK11⟩
          have P11 := Lib.hid hp11
          have O11 := Lib.hid (own_row O10.out (fun r hr => by
            obtain ⟨cs, hcs⟩ : ∃ cs, w10.heap[r]? = some (.cells cs 38 (0, 0)) := by
              rcases O10.out.2 with ⟨h, _⟩ | ⟨g, cap, cur, h, _, hh, _⟩
              · rw [h] at hr; cases hr
              · rw [h] at hr; injection hr with hr; subst hr; exact ⟨cur, hh⟩
            exact (hk11.cells hcs rfl).trans hcs.symm))
          have R11 := Lib.hid (R10.out.kt hk11 rfl)
          have bw11 := hk11.below B10.out.size
          have B11 := Lib.hid (B10.out.trans bw11)
          have BW11 := Lib.hid (BW10.out.trans bw11)
          have NXT := Lib.hid (WH.out.next (by have := K60.out; omega) ht11 hpt11 hK11)
          clear hp11 hk11 ht11 hpt11 hK11 bw11
          refine ⟨_, rfl, CIN.out _ BW11.out, ?_⟩
          simp only [Act.put, List.setIfInBounds_toArray, List.set_cons_succ, List.set_cons_zero]
          refine k_take 16 rfl (some 81) rfl (by kernel_rfl) (by kernel_rfl) (by kernel_rfl) (fun _ _ _ h => h) (by kernel_rfl) (by kernel_rfl) CD.out rfl (fun w' hw' => run_move_is (.tmp 97) (.tuple #[.int .i64 (r : Int), .nilIface]) rfl rfl w') (CIN.out _ BW11.out) ?_
          simp only [Act.put, List.setIfInBounds_toArray, List.set_cons_succ, List.set_cons_zero]
          refine k_take 17 rfl (some 98) rfl (by kernel_rfl) (by kernel_rfl) (by kernel_rfl) (fun _ _ _ h => h) (by kernel_rfl) (by kernel_rfl) CD.out rfl (fun w' hw' => run_extract0 (x := .tmp 81) rfl rfl w') (CIN.out _ BW11.out) ?_
          simp only [Act.put, List.setIfInBounds_toArray, List.set_cons_succ, List.set_cons_zero]
          refine k_take 18 rfl (some 99) rfl (by kernel_rfl) (by kernel_rfl) (by kernel_rfl) (fun _ _ _ h => h) (by kernel_rfl) (by kernel_rfl) CD.out rfl (fun w' hw' => run_extract1 (x := .tmp 81) rfl rfl w') (CIN.out _ BW11.out) ?_
          simp only [Act.put, List.setIfInBounds_toArray, List.set_cons_succ, List.set_cons_zero]
          refine k_one 19 (by kernel_rfl) ?_
          refine k_val rfl (some 14) rfl rfl false (by kernel_rfl) (run_assign_is (.tmp 98) (.int .i64 (r : Int)) rfl rfl _) (CIN.out _ BW11.out) ?_
          simp only [Act.put, List.setIfInBounds_toArray, List.set_cons_succ, List.set_cons_zero]
          refine k_one 20 (by kernel_rfl) ?_
          refine k_val rfl (some 15) rfl rfl false (by kernel_rfl) (run_assign_is (.tmp 99) (.nilIface) rfl rfl _) (CIN.out _ BW11.out) ?_
          simp only [Act.put, List.setIfInBounds_toArray, List.set_cons_succ, List.set_cons_zero]
          refine k_done (by kernel_rfl) ?_
          clear PD OD RD B9 BW CD CS P10 O10 R10 B10 BW10 PB OL RW BB
          go_wp2_with fail
          refine (num_nil w11).mono ?_
          rintro e w12 ⟨rfl, rfl⟩
          go_upto_region 20 with fail
          go_wp2_with fail
          go_loopw [16] (fun i wr3 => ∃ q3 : Nat, i = .int .i64 q3 ∧ q3 ≤ lw.length ∧ Below w11.heap.size w11 wr3) (fun i _ => lw.length - (RowKit.intOf i).toNat)
          case atStart => exact ⟨0, rfl, by omega, Below.refl _ _⟩
          case round =>
            obtain ⟨q3, rfl, hq3, hb12⟩ := hrel
            have B12 := Lib.hid hb12
            by_cases hlt3 : q3 < lw.length
            · have HLT3 := Lib.hid hlt3
              obtain ⟨pg, hpg⟩ : ∃ y, lw[q3]? = some y := ⟨_, List.getElem?_eq_getElem hlt3⟩
              obtain ⟨gw, ow, rfl, hcq, _⟩ := (R11.out.below hb12).at.2 q3 _ (ints_at' hpg)
              have hpT := MEM.out pg (List.mem_of_getElem? hpg)
              have hpgr := WH.out.range pg hpT
              have hd12 := (P11.out.below hb12).dsk
              have rd := readD hd12 pg hpgr.2
              have hVV := NXT.out.2.1 pg hpT
              have pl := hd12.length pg hpgr.2
              rw [hVV] at rd pl
              have RD := Lib.hid rd
              have PL := Lib.hid pl
              have hVL : ∀ p, p < 240 → (V p).length = 128 := fun p hp => P5.out.dsk.length p hp
              obtain ⟨gO, cO, hu10⟩ := own_some O11.out (by omega)
              have HU := Lib.hid hu10
              have OC := Lib.hid (show ∀ w', Below w11.heap.size w11 w' → ∀ j v, (cellsB (V pg))[j]? = some v → w'.cell? ⟨gO, q3 * 128 + j, none⟩ = some v from fun w' hb j v hj => by
                have ho := own_row O11.out (fun r hr => hb.block r (own_lt O11.out hr).1)
                rw [hu10] at ho
                have hjl : j < 128 := by
                  rcases Nat.lt_or_ge j 128 with h | h
                  · exact h
                  · rw [List.getElem?_eq_none (by rw [cellsB_length, pl]; exact h)] at hj; cases hj
                rw [ho.cellAt (q3 * 128 + j) (by omega), pagesV_at hVL (fun p hp => (WH.out.range p (MEM.out p hp)).2) hpg j hjl]
                exact hj)
              clear hb12 hpg hpT hpgr hd12 rd hVV pl hVL hu10
              go_upto_region 23 with fail
              go_wp2_with fail
              clear hcq
              refine RD.out.mono ?_
              rintro e w13 ⟨rfl, hb13⟩
              obtain ⟨G, hG⟩ : ∃ P, P = w13.heap.size := ⟨_, rfl⟩
              obtain ⟨W1, hW1⟩ : ∃ W, W = w13.alloc (.cells Tryz.zeroCells39 39) := ⟨_, rfl⟩
              obtain ⟨W2, hW2⟩ : ∃ W, W = W1.setRow G (pv (V pg)) := ⟨_, rfl⟩
              have q1 : W1.heap[G]? = some (.cells (pv (zeros 128)) 39 (0, 0)) := by rw [hW1, hG, ← zero39]; exact heap_alloc_new _ _
              have Q1 := Lib.hid q1
              have q2 : W2.heap[G]? = some (.cells (pv (V pg)) 39 (0, 0)) := by rw [hW2]; exact setRow_has q1
              have Q2 := Lib.hid (show ∀ w', Below W2.heap.size W2 w' → w'.heap[G]? = some (.cells (pv (V pg)) 39 (0, 0)) from fun w' hb => (hb.block G (row_lt q2)).trans q2)
              have b2 : Below w13.heap.size w13 W2 := by rw [hW2]; exact below_setRow (by rw [hW1]; exact (Below.refl _ _).alloc (Nat.le_refl _) _) (by omega) _
              have B13 := Lib.hid (B12.out.trans ((hb13.trans (b2.mono hb13.size)).mono B12.out.size))
              have SP := Lib.hid (show (Tryz.prog.info? 39).map (·.size) = some (pv (V pg)).size ∧ (pv (zeros 128)).size = (pv (V pg)).size from ⟨by rw [pv_size, PL.out]; exact size39, by rw [pv_size, pv_size, PL.out]; rfl⟩)
              have HG := Lib.hid hG
              have HW1 := Lib.hid hW1
              have HW2 := Lib.hid hW2.symm
              clear hb13 hG hW1 hW2 q1 q2 b2
              go_upto_region 24 with (rw [← HW1.out, ← HG.out]; refine wpList_store_row rfl 39 (.tmp 17) (.tmp 116) rfl G (pv (V pg)) rfl rfl 39 (pv (zeros 128)) Q1.out SP.out.1 SP.out.2 (pv_one _) ?_; rw [HW2.out])
              refine r_region (fun w' => Below W2.heap.size W2 w') (by kernel_rfl) (by kernel_rfl) (Below.refl _ _).drew ?_
              refine r_move_is rfl (.tmp 18) (.nilIface) rfl rfl ?_
              simp only [Act.put, List.setIfInBounds_toArray, List.set_cons_succ, List.set_cons_zero]
              refine r_call rfl (args := #[.nilIface]) (fun w' hw' => run_call1 (x := .tmp 118) rfl Tryz.call7 rfl w') (fun w' hw' => (num_nil w').mono (fun e w'' ⟨he, hb⟩ => ⟨he, hb ▸ hw'⟩)) ?_
              simp only [Act.put, List.setIfInBounds_toArray, List.set_cons_succ, List.set_cons_zero]
              refine r_val rfl (fun w' hw' => run_neq_i (x := .tmp 119) (y := .const (.int .i64 0)) rfl rfl rfl false rfl w') ?_
              simp only [Act.put, List.setIfInBounds_toArray, List.set_cons_succ, List.set_cons_zero]
              refine r_move_is rfl (.tmp 120) (.bool false) rfl rfl ?_
              simp only [Act.put, List.setIfInBounds_toArray, List.set_cons_succ, List.set_cons_zero]
              refine r_val (want_is 3 121 false false true rfl rfl rfl rfl) (fun w' hw' => run_load_page (x := .tmp 17) rfl rfl (Q2.out w' hw') PL.out) ?_
              simp only [Act.put, List.setIfInBounds_toArray, List.set_cons_succ, List.set_cons_zero]
              refine r_move_is (want_is 3 121 false false true rfl rfl rfl rfl) (.tmp 10) (.slice (some ⟨gO, 0, none⟩) lw.length cO) rfl HU.out ?_
              simp only [Act.put, List.setIfInBounds_toArray, List.set_cons_succ, List.set_cons_zero]
              refine r_move_is (want_is 3 121 false false true rfl rfl rfl rfl) (.tmp 16) (.int .i64 (q3 : Int)) rfl rfl ?_
              simp only [Act.put, List.setIfInBounds_toArray, List.set_cons_succ, List.set_cons_zero]
              refine r_val (want_is 3 121 false false true rfl rfl rfl rfl) (fun w' hw' => run_at37 (x := .tmp 123) (y := .tmp 124) rfl rfl rfl HLT3.out w') ?_
              simp only [Act.put, List.setIfInBounds_toArray, List.set_cons_succ, List.set_cons_zero]
              refine r_val (want_is 3 121 false false true rfl rfl rfl rfl) (fun w' hw' => run_load_at38 (x := .tmp 125) (X := gO) (k := q3 * 128) rfl rfl (OC.out w' (B13.out.trans (hw'.mono B13.out.size))) PL.out) ?_
              simp only [Act.put, List.setIfInBounds_toArray, List.set_cons_succ, List.set_cons_zero]
              refine r_val (want_is 3 121 false false true rfl rfl rfl rfl) (fun w' hw' => run_neq_same (x := .tmp 122) (y := .tmp 126) rfl rfl rfl PL.out w') ?_
              simp only [Act.put, List.setIfInBounds_toArray, List.set_cons_succ, List.set_cons_zero]
              refine r_val rfl (fun w' hw' => run_pick_is (c := .tmp 121) (a := .const (.bool true)) (b := .tmp 127) rfl rfl (.bool false) rfl w') ?_
              simp only [Act.put, List.setIfInBounds_toArray, List.set_cons_succ, List.set_cons_zero]
              refine r_nil ?_
              intro w14 hb14
              have B14 := Lib.hid (B13.out.trans (hb14.mono B13.out.size))
              have hq200 : q3 ≤ 200 := by have := HLT3.out; have := LW.out; omega
              clear hb14 hlt3 hq3
              go_wp2
              go_roundw
              case rel => exact ⟨q3 + 1, by go_num, HLT3.out, B14.out⟩
              case measure => have := HLT3.out; simp [RowKit.intOf]; omega
            · have P12 := Lib.hid (P11.out.below hb12)
              have BZ := Lib.hid (B11.out.trans (hb12.mono B11.out.size))
              clear hb12 hq3
              go_upto_region 26 with fail
              clear hlt3
              have cm := commit_any P12.out r (by have := WH.out.gen; have := K60.out; omega) NXT.out.1.1 NXT.out.1.2.1 NXT.out.1.2.2.1 NXT.out.1.2.2.2.1 NXT.out.1.2.2.2.2
              have wn := NXT.out.2.2
              obtain ⟨S2, hS2⟩ : ∃ S2 : SupT, S2 = (s.1 + 1, r, usedP s.2.2 Fr' Go') := ⟨_, rfl⟩
              obtain ⟨V2, hV2⟩ : ∃ V2, V2 = upd V' ((s.1 + 1) % 2) (laidP 1 (slay (s.1 + 1) r (usedP s.2.2 Fr' Go'))) := ⟨_, rfl⟩
              rw [← hS2, ← hV2] at cm wn
              have CM := Lib.hid cm
              have WN := Lib.hid wn
              have R2 := Lib.hid (show S2.2.1 = r by rw [hS2])
              clear cm wn hS2 hV2
              go_wp2_with fail
              refine CM.out.mono ?_
              rintro e w14 ⟨rfl, hp14, hk14⟩
              have P14 := Lib.hid hp14
              have BL14 := Lib.hid (BZ.out.trans (hk14.below BZ.out.size))
              clear hp14 hk14
              go_wp2_with fail
              refine (num_nil w14).mono ?_
              rintro e w15 ⟨rfl, rfl⟩
              go_upto_region 28 with fail
              go_wp2_with fail
              refine (WN.out.best P14.out.dsk).mono ?_
              rintro e w15 ⟨rfl, hb15⟩
              obtain ⟨X, hX⟩ : ∃ P, P = w15.heap.size := ⟨_, rfl⟩
              obtain ⟨W1, hW1⟩ : ∃ W, W = w15.alloc (.cells L52 52) := ⟨_, rfl⟩
              obtain ⟨W2, hW2⟩ : ∃ W, W = W1.setRow X (svT S2) := ⟨_, rfl⟩
              have x1 : W1.heap[X]? = some (.cells L52 52 (0, 0)) := by rw [hW1, hX]; exact heap_alloc_new _ _
              have X2 := Lib.hid (show W2.heap[X]? = some (.cells (svT S2) 52 (0, 0)) by rw [hW2]; exact setRow_has x1)
              have b2 : Below w15.heap.size w15 W2 := by rw [hW2]; exact below_setRow (by rw [hW1]; exact (Below.refl _ _).alloc (Nat.le_refl _) _) (by omega) _
              have b14 := hb15.trans (b2.mono hb15.size)
              have P16 := Lib.hid (P14.out.below b14)
              have BL16 := Lib.hid (BL14.out.trans (b14.mono BL14.out.size))
              have SV := Lib.hid (svT_size (s := S2) P14.out.su)
              have N3 := Lib.hid (heap_alloc_new w15 (.cells L52 52))
              have HX := Lib.hid hX
              have HW1 := Lib.hid hW1
              have HW2 := Lib.hid hW2.symm
              clear hb15 hX hW1 hW2 x1 b2 b14
              go_upto_region 29 with (refine wpList_store_row rfl 52 (.tmp 19) (.tmp 137) rfl w15.heap.size (svT S2) rfl rfl 52 L52 N3.out (by rw [SV.out]; exact size52) (by rw [SV.out]; rfl) (sv_one _ _ _) ?_)
              rw [← HW1.out, ← HX.out, HW2.out]
              have pgs := WN.out.pages (by have := K60.out; omega) P16.out
              rw [R2.out] at pgs
              have PGS := Lib.hid pgs
              clear pgs
              go_wp2_with fail
              refine PGS.out.mono ?_
              rintro e w17 ⟨v2, l2, rfl, hperm2, hown2, hb17⟩
              obtain ⟨A2, c2, rfl⟩ := own_slice hown2
              have MEM2 := Lib.hid (show ∀ p ∈ l2, p ∈ ps' from fun p hp => hperm2.mem_iff.1 hp)
              have CNT2 := Lib.hid (show countP S2.2.2 = l2.length by rw [WN.out.count, hperm2.length_eq])
              have L2N := Lib.hid (show l2.length ≤ 119 by
                rw [hperm2.length_eq]
                rcases WN.out.few (by have := K60.out; omega) with ⟨_, h1⟩ | ⟨_, _, _, h1, _⟩
                · rw [h1]; simp
                · exact h1)
              have RW2 := Lib.hid (RowAt.own hown2)
              have P17 := Lib.hid (P16.out.below hb17)
              have BL17 := Lib.hid (BL16.out.trans (hb17.mono BL16.out.size))
              have X17 := Lib.hid (show ∀ w', Below w17.heap.size w17 w' → w'.heap[X]? = some (.cells (svT S2) 52 (0, 0)) from fun w' hb => by
                have h1 := (hb17.block X (row_lt X2.out)).trans X2.out
                exact (hb.block X (row_lt h1)).trans h1)
              have SU := Lib.hid P17.out.su
              clear hperm2 hown2 hb17
              go_upto_region 30 with fail
              refine r_region (fun w' => Below w17.heap.size w17 w') (by kernel_rfl) (by kernel_rfl) (Below.refl _ _).drew ?_
              refine r_move_is rfl (.tmp 20) (.nilIface) rfl rfl ?_
              simp only [Act.put, List.setIfInBounds_toArray, List.set_cons_succ, List.set_cons_zero]
              refine r_call rfl (args := #[.nilIface]) (fun w' hw' => run_call1 (x := .tmp 145) rfl Tryz.call7 rfl w') (fun w' hw' => (num_nil w').mono (fun e w'' ⟨he, hb⟩ => ⟨he, hb ▸ hw'⟩)) ?_
              simp only [Act.put, List.setIfInBounds_toArray, List.set_cons_succ, List.set_cons_zero]
              refine r_val rfl (fun w' hw' => run_neq_i (x := .tmp 146) (y := .const (.int .i64 0)) rfl rfl rfl false rfl w') ?_
              simp only [Act.put, List.setIfInBounds_toArray, List.set_cons_succ, List.set_cons_zero]
              refine r_move_is rfl (.tmp 147) (.bool false) rfl rfl ?_
              simp only [Act.put, List.setIfInBounds_toArray, List.set_cons_succ, List.set_cons_zero]
              refine r_move_is (want_is 3 148 false false true rfl rfl rfl rfl) (.tmp 22) (.nilIface) rfl rfl ?_
              simp only [Act.put, List.setIfInBounds_toArray, List.set_cons_succ, List.set_cons_zero]
              refine r_call (want_is 3 148 false false true rfl rfl rfl rfl) (args := #[.nilIface]) (fun w' hw' => run_call1 (x := .tmp 149) rfl Tryz.call7 rfl w') (fun w' hw' => (num_nil w').mono (fun e w'' ⟨he, hb⟩ => ⟨he, hb ▸ hw'⟩)) ?_
              simp only [Act.put, List.setIfInBounds_toArray, List.set_cons_succ, List.set_cons_zero]
              refine r_val (want_is 3 148 false false true rfl rfl rfl rfl) (fun w' hw' => run_neq_i (x := .tmp 150) (y := .const (.int .i64 0)) rfl rfl rfl false rfl w') ?_
              simp only [Act.put, List.setIfInBounds_toArray, List.set_cons_succ, List.set_cons_zero]
              refine r_val rfl (fun w' hw' => run_pick_is (c := .tmp 148) (a := .const (.bool true)) (b := .tmp 151) rfl rfl (.bool false) rfl w') ?_
              simp only [Act.put, List.setIfInBounds_toArray, List.set_cons_succ, List.set_cons_zero]
              refine r_move_is rfl (.tmp 152) (.bool false) rfl rfl ?_
              simp only [Act.put, List.setIfInBounds_toArray, List.set_cons_succ, List.set_cons_zero]
              refine r_val (want_is 8 153 false false true rfl rfl rfl rfl) (fun w' hw' => run_fld52_1 (x := .tmp 19) (d := X) rfl rfl w') ?_
              simp only [Act.put, List.setIfInBounds_toArray, List.set_cons_succ, List.set_cons_zero]
              refine r_val (want_is 8 153 false false true rfl rfl rfl rfl) (fun w' hw' => run_load_int (x := .tmp 154) rfl Tryz.underlying3 rfl (v := .int .i64 (S2.2.1 : Int)) (cell_of_row w' X 1 _ 52 (0, 0) (X17.out w' hw'))) ?_
              simp only [Act.put, List.setIfInBounds_toArray, List.set_cons_succ, List.set_cons_zero]
              refine r_move_is (want_is 8 153 false false true rfl rfl rfl rfl) (.tmp 14) (.int .i64 (r : Int)) rfl rfl ?_
              simp only [Act.put, List.setIfInBounds_toArray, List.set_cons_succ, List.set_cons_zero]
              refine r_val (want_is 8 153 false false true rfl rfl rfl rfl) (fun w' hw' => run_neq_i (x := .tmp 155) (y := .tmp 156) rfl rfl rfl false (by rw [R2.out]; simp) w') ?_
              simp only [Act.put, List.setIfInBounds_toArray, List.set_cons_succ, List.set_cons_zero]
              refine r_val rfl (fun w' hw' => run_pick_is (c := .tmp 153) (a := .const (.bool true)) (b := .tmp 157) rfl rfl (.bool false) rfl w') ?_
              simp only [Act.put, List.setIfInBounds_toArray, List.set_cons_succ, List.set_cons_zero]
              refine r_move_is rfl (.tmp 158) (.bool false) rfl rfl ?_
              simp only [Act.put, List.setIfInBounds_toArray, List.set_cons_succ, List.set_cons_zero]
              refine r_val (want_is 14 159 false false true rfl rfl rfl rfl) (fun w' hw' => run_fld52_0 (x := .tmp 19) (d := X) rfl rfl w') ?_
              simp only [Act.put, List.setIfInBounds_toArray, List.set_cons_succ, List.set_cons_zero]
              refine r_val (want_is 14 159 false false true rfl rfl rfl rfl) (fun w' hw' => run_load_int (x := .tmp 160) rfl Tryz.underlying44 rfl (v := .int .u32 (S2.1 : Int)) (cell_of_row w' X 0 _ 52 (0, 0) (X17.out w' hw'))) ?_
              simp only [Act.put, List.setIfInBounds_toArray, List.set_cons_succ, List.set_cons_zero]
              refine r_move_is (want_is 14 159 false false true rfl rfl rfl rfl) (.tmp 5) (.pointer (some ⟨P, 0, none⟩)) rfl rfl ?_
              simp only [Act.put, List.setIfInBounds_toArray, List.set_cons_succ, List.set_cons_zero]
              refine r_call (want_is 14 159 false false true rfl rfl rfl rfl) (args := #[.pointer (some ⟨P, 0, none⟩)]) (fun w' hw' => run_call1 (x := .tmp 162) rfl Tryz.call15 rfl w') (fun w' hw' => (pgen_any (P17.out.below hw')).mono (fun e w'' ⟨he, hb⟩ => ⟨he, hb ▸ hw'⟩)) ?_
              simp only [Act.put, List.setIfInBounds_toArray, List.set_cons_succ, List.set_cons_zero]
              refine r_val (want_is 14 159 false false true rfl rfl rfl rfl) (fun w' hw' => run_neq_i (x := .tmp 161) (y := .tmp 163) rfl rfl rfl false (by simp) w') ?_
              simp only [Act.put, List.setIfInBounds_toArray, List.set_cons_succ, List.set_cons_zero]
              refine r_val rfl (fun w' hw' => run_pick_is (c := .tmp 159) (a := .const (.bool true)) (b := .tmp 164) rfl rfl (.bool false) rfl w') ?_
              simp only [Act.put, List.setIfInBounds_toArray, List.set_cons_succ, List.set_cons_zero]
              refine r_move_is rfl (.tmp 165) (.bool false) rfl rfl ?_
              simp only [Act.put, List.setIfInBounds_toArray, List.set_cons_succ, List.set_cons_zero]
              refine r_val (want_is 21 166 false false true rfl rfl rfl rfl) (fun w' hw' => run_fld52_2 (x := .tmp 19) (d := X) rfl rfl w') ?_
              simp only [Act.put, List.setIfInBounds_toArray, List.set_cons_succ, List.set_cons_zero]
              refine r_val (want_is 21 166 false false true rfl rfl rfl rfl) (fun w' hw' => run_ld_set (x := .tmp 167) rfl rfl SU.out (sv_range (X17.out w' hw'))) ?_
              simp only [Act.put, List.setIfInBounds_toArray, List.set_cons_succ, List.set_cons_zero]
              refine r_call (want_is 21 166 false false true rfl rfl rfl rfl) (args := #[.agg (Bv S2.2.2)]) (fun w' hw' => run_call1 (x := .tmp 168) rfl Tryz.call16 rfl w') (fun w' hw' => (count_any S2.2.2 SU.out w').mono (fun e w'' ⟨he, hb⟩ => ⟨he, hw'.trans (hb.mono hw'.size)⟩)) ?_
              simp only [Act.put, List.setIfInBounds_toArray, List.set_cons_succ, List.set_cons_zero]
              refine r_move_is (want_is 21 166 false false true rfl rfl rfl rfl) (.tmp 21) (.slice A2 l2.length c2) rfl rfl ?_
              simp only [Act.put, List.setIfInBounds_toArray, List.set_cons_succ, List.set_cons_zero]
              refine r_val (want_is 21 166 false false true rfl rfl rfl rfl) (fun w' hw' => run_len_T Tryz.underlying33 (x := .tmp 170) rfl rfl w') ?_
              simp only [Act.put, List.setIfInBounds_toArray, List.set_cons_succ, List.set_cons_zero]
              refine r_val (want_is 21 166 false false true rfl rfl rfl rfl) (fun w' hw' => run_neq_i (x := .tmp 169) (y := .tmp 171) rfl rfl rfl false (by rw [CNT2.out]; simp) w') ?_
              simp only [Act.put, List.setIfInBounds_toArray, List.set_cons_succ, List.set_cons_zero]
              refine r_val rfl (fun w' hw' => run_pick_is (c := .tmp 166) (a := .const (.bool true)) (b := .tmp 172) rfl rfl (.bool false) rfl w') ?_
              simp only [Act.put, List.setIfInBounds_toArray, List.set_cons_succ, List.set_cons_zero]
              refine r_nil ?_
              intro w18 hb18
              have B18 := Lib.hid hb18
              clear hb18
              go_upto_region 32 with fail
              go_wp2_with fail
              go_loopw [23] (fun i wr4 => ∃ q4 : Nat, i = .int .i64 q4 ∧ q4 ≤ l2.length ∧ Below w17.heap.size w17 wr4) (fun i _ => l2.length - (RowKit.intOf i).toNat)
              case atStart => exact ⟨0, rfl, by omega, B18.out⟩
              case round =>
                obtain ⟨q4, rfl, hq4, hb19⟩ := hrel
                have B19 := Lib.hid hb19
                by_cases hlt4 : q4 < l2.length
                · have HLT4 := Lib.hid hlt4
                  obtain ⟨pg, hpg⟩ : ∃ y, l2[q4]? = some y := ⟨_, List.getElem?_eq_getElem hlt4⟩
                  obtain ⟨gw, ow, rfl, _, _⟩ := (RW2.out.below hb19).at.2 q4 _ (ints_at' hpg)
                  have CC := Lib.hid (show ∀ w', Below w17.heap.size w17 w' → w'.cell? ⟨gw, ow + q4, none⟩ = some (.int .i64 (pg : Int)) from fun w' hb => by
                    obtain ⟨g', o', e', hc, _⟩ := (RW2.out.below hb).at.2 q4 _ (ints_at' hpg)
                    injection e' with e'
                    injection e' with ea eb _
                    rw [ea, eb]
                    exact hc)
                  have hpT := MEM2.out pg (List.mem_of_getElem? hpg)
                  have hpr := WN.out.range pg hpT
                  have HAS := Lib.hid (show hasP S2.2.2 (pg : Int) = true by
                    unfold hasP
                    rw [inB_nat hpr.2, Int.toNat_natCast, (WN.out.used pg hpr.2).2 hpT]; rfl)
                  clear hb19 hpg hpT hpr
                  go_upto_region 35 with fail
                  refine r_region (fun w' => Below w17.heap.size w17 w') (by kernel_rfl) (by kernel_rfl) B19.out.drew ?_
                  refine r_val rfl (fun w' hw' => run_fld52_2 (x := .tmp 19) (d := X) rfl rfl w') ?_
                  simp only [Act.put, List.setIfInBounds_toArray, List.set_cons_succ, List.set_cons_zero]
                  refine r_val rfl (fun w' hw' => run_ld_set (x := .tmp 180) rfl rfl SU.out (sv_range (X17.out w' hw'))) ?_
                  simp only [Act.put, List.setIfInBounds_toArray, List.set_cons_succ, List.set_cons_zero]
                  refine r_move_is rfl (.tmp 21) (.slice (some ⟨gw, ow, none⟩) l2.length c2) rfl rfl ?_
                  simp only [Act.put, List.setIfInBounds_toArray, List.set_cons_succ, List.set_cons_zero]
                  refine r_move_is rfl (.tmp 23) (.int .i64 (q4 : Int)) rfl rfl ?_
                  simp only [Act.put, List.setIfInBounds_toArray, List.set_cons_succ, List.set_cons_zero]
                  refine r_val rfl (fun w' hw' => run_at33 (x := .tmp 182) (y := .tmp 183) rfl rfl rfl HLT4.out w') ?_
                  simp only [Act.put, List.setIfInBounds_toArray, List.set_cons_succ, List.set_cons_zero]
                  refine r_val rfl (fun w' hw' => run_load_int (x := .tmp 184) rfl Tryz.underlying3 rfl (CC.out w' hw')) ?_
                  simp only [Act.put, List.setIfInBounds_toArray, List.set_cons_succ, List.set_cons_zero]
                  refine r_call rfl (args := #[.agg (Bv S2.2.2), .int .i64 (pg : Int)]) (fun w' hw' => run_call2 (x := .tmp 181) (y := .tmp 185) rfl Tryz.call17 rfl rfl w') (fun w' hw' => (has_any S2.2.2 (pg : Int) w' SU.out).mono (fun e w'' ⟨he, hb⟩ => ⟨by rw [HAS.out] at he; exact he, hw'.trans (hb.mono hw'.size)⟩)) ?_
                  simp only [Act.put, List.setIfInBounds_toArray, List.set_cons_succ, List.set_cons_zero]
                  refine r_val rfl (fun w' hw' => run_not_is (x := .tmp 186) rfl rfl false rfl w') ?_
                  simp only [Act.put, List.setIfInBounds_toArray, List.set_cons_succ, List.set_cons_zero]
                  refine r_nil ?_
                  intro w20 hb20
                  have B20 := Lib.hid hb20
                  have hq200 : q4 ≤ 200 := by have := HLT4.out; have := L2N.out; omega
                  clear hb20 hlt4 hq4
                  go_wp2
                  go_roundw
                  case rel => exact ⟨q4 + 1, by go_num, HLT4.out, B20.out⟩
                  case measure => have := HLT4.out; simp [RowKit.intOf]; omega
                · have P19 := Lib.hid (P17.out.below hb19)
                  have BL19 := Lib.hid (BL17.out.trans (hb19.mono BL17.out.size))
                  have hk100 : k ≤ 100 := by have := K60.out; omega
                  clear hb19 hq4
                  go_wp2
                  go_roundw
                  case rel => exact ⟨k + 1, V2, S2, ps', by go_num, HLT.out, WN.out, P19.out, BL19.out⟩
                  case measure => have := HLT.out; simp [RowKit.intOf]; omega
    · go_wp2_with fail
      go_ret
      exact ⟨rfl, B1.out.trans (BL.out.mono B1.out.size)⟩
end Go.Proofs.YtnlolhlbpdmljaaGreatDoor
