/-
  A value of a number: twelve bytes. What holds between two commits; a pair put and committed; in plain Lean and by the contracts.
  Conditions: none.
-/
import Derived.Test.YtnlolhlbpdmljaaGreatDoorChkD
import Derived.Lib.SlBytesConst
namespace Go.Proofs.YtnlolhlbpdmljaaGreatDoor
open Go.ChangeShapes Go.WideShapes Go.RowKit
def dots : B8 := [46, 46, 46, 46, 46, 46, 46, 46, 46, 46, 46, 46]
theorem cells_dots : (cellsB dots).toArray = #[.int .u8 46, .int .u8 46, .int .u8 46, .int .u8 46, .int .u8 46, .int .u8 46, .int .u8 46, .int .u8 46, .int .u8 46, .int .u8 46, .int .u8 46, .int .u8 46] := by kernel_rfl

theorem row_own {w : World} {B X e n : Nat} {xs : List Value} (h : w.heap[X]? = some (.cells xs.toArray e (0, 0))) (hB : B ≤ X) (hn : xs.length = n) (hm : n ≤ maxLen) : w.ownsRow B e 1 (.slice (some ⟨X, 0, none⟩) n n) n xs :=
  ⟨by rw [hn, Nat.mul_one], .inr ⟨X, n, xs.toArray, rfl, hB, h, Nat.le_refl _, hm, by simp [hn], by rw [Nat.mul_one]; simp [← hn]⟩⟩
theorem heap_setCell_fr {w : World} {d j : Nat} {cs : Array Value} {t : TypeId} {fr : Nat × Nat} (h : w.heap[d]? = some (.cells cs t fr)) (u : Value) : (w.setCell ⟨d, j, none⟩ u).heap[d]? = some (.cells (cs.setIfInBounds j u) t fr) := by
  simp [World.setCell, Array.getElem?_modify, h]
theorem run_store_mark {ρ : Operand → Value} {o : Oper} {x y : Operand} (ho : o.op = .store 5 x y) {d j : Nat} {v : Value} {cs : Array Value} {w : World}
    (hx : ρ x = .pointer (some ⟨d, j, none⟩)) (hy : ρ y = v) (h1 : v.oneCell' = true) (h : w.heap[d]? = some (.cells cs 5 (12, 13))) (hj : j < cs.size) (hj12 : j < 12) : (execOp ρ o).run Tryz.prog w = .ok .skip (w.setCell ⟨d, j, none⟩ v) := by
  have hf : w.frozen? ⟨d, j, none⟩ = false := by simp [World.frozen?, h]; omega
  have hc := cell_of_row w d j cs 5 (12, 13) h
  rw [Array.getElem?_eq_getElem hj] at hc
  unfold execOp
  rw [ho]
  have hv : v.cells = #[v] := by cases v <;> first | rfl | cases h1
  have h2 := run_storeCells_cells (P := Tryz.prog) d j [v] 0 w (by intro i hi; have : i = 0 := by simpa using hi
                                                                   subst this; simp [hc]) (by intro i hi; have : i = 0 := by simpa using hi
                                                                                              subst this; exact hf) (by simpa using h1)
  have h3 : (storeCells ⟨d, j, none⟩ [v]).run Tryz.prog w = .ok () (w.setCell ⟨d, j, none⟩ v) := h2
  simp [hx, hy, Instr.storeAt, Instr.sureAddr, storeVar, hv, Sem.run_bind, run_size size5', h3]
section
variable {ρ : Operand → Value} {o : Oper}
theorem run_mul8 {y : Operand} (ho : o.op = .binOp .mul 3 (.const (.int .i64 8)) y 3) (hc : ρ (.const (.int .i64 8)) = .int .i64 8) {k : Nat} (hy : ρ y = .int .i64 (k : Int)) (hk : k < 4) (w : World) : (execOp ρ o).run Tryz.prog w = .ok (.value (.int .i64 ((8 * k : Nat) : Int))) w := by
  unfold execOp
  rw [ho]
  have h := IntWalk.i64_in (8 * (k : Int)) (by omega)
  simp [hc, hy, go_sem, eqGuard, h]
theorem run_shr32 {x y : Operand} (ho : o.op = .binOp .shr 44 x y 3) {n j : Nat} (hx : ρ x = .int .u32 (n : Int)) (hy : ρ y = .int .i64 (j : Int)) (hj : j ≤ 32) (w : World) : (execOp ρ o).run Tryz.prog w = .ok (.value (.int .u32 ((n / 2 ^ j : Nat) : Int))) w := by
  unfold execOp
  rw [ho]
  simp [hx, hy, go_sem, eqGuard]
theorem run_conv8w {x : Operand} (ho : o.op = .convert 44 5 x) {n : Nat} {b : UInt8} (hx : ρ x = .int .u32 (n : Int)) (hb : IntKind.u8.wrap (n : Int) = (b.toNat : Int)) (w : World) : (execOp ρ o).run Tryz.prog w = .ok (.value (.int .u8 (b.toNat : Int))) w := by
  unfold execOp
  rw [ho]
  simp [go_sem, hx, hb]
theorem run_text_mark {x : Operand} (ho : o.op = .convert 94 9 x) {X : Nat} {l : B8} {w : World} (hx : ρ x = .slice (some ⟨X, 0, none⟩) 12 12) (hX : w.heap[X]? = some (.cells (cellsB l).toArray 5 (12, 13))) (hl : l.length = 12) : (execOp ρ o).run Tryz.prog w = .ok (.value (.string (strB l))) w := by
  have hr : (convert 94 9 (.slice (some ⟨X, 0, none⟩) 12 12)).run Tryz.prog w = .ok (.string (strB l)) w := by
    have := run_convert_bytes_back (P := Tryz.prog) w 94 9 5 ⟨X, 0, none⟩ 12 l Tryz.underlying94 Tryz.underlying5 Tryz.underlying9 (fun j hj => by
      rw [addr_add2, cell_of_row w X _ _ 5 (12, 13) hX, Nat.zero_add, List.getElem?_toArray]
      unfold cellsB
      rw [List.getElem?_map, List.getElem?_eq_getElem hj]
      rfl)
    rw [hl] at this
    exact this
  unfold execOp
  rw [ho]
  simp only [hx, Sem.run_bind, hr, Result.andThen_ok, Sem.run_pure]
end
set_option maxRecDepth 100000 in
set_option maxHeartbeats 2000000 in
theorem val_any (w : World) (n : Nat) : Calls Tryz.prog 12 #[.int .u32 (n : Int)] w fun e w' => ∃ b : B8, b.length = 12 ∧ e = .returned (.string (strB b)) ∧ Below w.heap.size w w' := by
  obtain ⟨X, hX⟩ : ∃ M, M = w.heap.size := ⟨_, rfl⟩
  obtain ⟨W1, hW1⟩ : ∃ W, W = w.alloc (.cells #[.int .u8 46, .int .u8 46, .int .u8 46, .int .u8 46, .int .u8 46, .int .u8 46, .int .u8 46, .int .u8 46, .int .u8 46, .int .u8 46, .int .u8 46, .int .u8 46] 5 (12, 13)) := ⟨_, rfl⟩
  have b1 : Below w.heap.size w W1 := by rw [hW1]; exact (Below.refl _ _).alloc (Nat.le_refl _) _
  have B1 := Lib.hid b1
  have X1 := Lib.hid (show W1.heap[X]? = some (.cells (cellsB dots).toArray 5 (12, 13)) by rw [hW1, hX, cells_dots]; exact heap_alloc_new _ _)
  have kc : (convert 94 94 (.slice (some ⟨w.heap.size, 0, none⟩) 12 12)).run Tryz.prog (w.alloc (.cells #[.int .u8 46, .int .u8 46, .int .u8 46, .int .u8 46, .int .u8 46, .int .u8 46, .int .u8 46, .int .u8 46, .int .u8 46, .int .u8 46, .int .u8 46, .int .u8 46] 5)) = .ok (.slice (some ⟨w.heap.size, 0, none⟩) 12 12) (w.alloc (.cells #[.int .u8 46, .int .u8 46, .int .u8 46, .int .u8 46, .int .u8 46, .int .u8 46, .int .u8 46, .int .u8 46, .int .u8 46, .int .u8 46, .int .u8 46, .int .u8 46] 5 (12, 13))) := Lib.run_convert_bytes_const w 94 5 _ 12 12 Tryz.underlying94 Tryz.underlying5
  have HX := Lib.hid hX
  have HW1 := Lib.hid hW1
  clear hX hW1 b1
  go_enter Tryz.func12, Tryz.ntmps12
  go_upto_region 2 with fail
  rw [← HW1.out, ← HX.out]
  clear kc
  go_wp2_with fail
  go_loopw [4] (fun i wr => ∃ (k : Nat) (l : B8), i = .int .i64 k ∧ k ≤ 4 ∧ l.length = 12 ∧ wr.heap[X]? = some (.cells (cellsB l).toArray 5 (12, 13)) ∧ Below w.heap.size w wr) (fun i _ => 4 - (RowKit.intOf i).toNat)
  case atStart => exact ⟨0, dots, rfl, by omega, rfl, X1.out, B1.out⟩
  case round =>
    obtain ⟨k, l, rfl, hk, hl, hx, hb⟩ := hrel
    have XX := Lib.hid hx
    have BB := Lib.hid hb
    have LL := Lib.hid hl
    clear hx hb hl
    by_cases hlt : k < 4
    · have HLT := Lib.hid hlt
      have hltI : (k : Int) < 4 := by omega
      have hcond : decide ((k : Int) < 4) = true := decide_eq_true hltI
      obtain ⟨b, hb⟩ : ∃ b, b = UInt8.ofNat (n / 2 ^ (8 * k)) := ⟨_, rfl⟩
      have hbw : IntKind.u8.wrap (((n / 2 ^ (8 * k) : Nat) : Int)) = (b.toNat : Int) := by
        rw [hb]
        simp [IntKind.wrap, IntKind.signed, IntKind.bits]
      obtain ⟨w2, hw2⟩ : ∃ u, u = wr.setCell ⟨X, k, none⟩ (.int .u8 (b.toNat : Int)) := ⟨_, rfl⟩
      have x2 : w2.heap[X]? = some (.cells (cellsB (l.set k b)).toArray 5 (12, 13)) := by
        rw [hw2, heap_setCell_fr XX.out]
        unfold cellsB
        rw [List.map_set, List.setIfInBounds_toArray]
      have X2 := Lib.hid x2
      have B2 := Lib.hid (show Below w.heap.size w w2 by rw [hw2]; exact ⟨BB.out.os, BB.out.tape, BB.out.output, by rw [setCell_size]; exact BB.out.size, fun q hq => (heap_setCell_other wr ⟨X, k, none⟩ q _ (fun e => by have e : q = X := e; have := HX.out; omega)).trans (BB.out.block q hq)⟩)
      have HW2 := Lib.hid hw2.symm
      have HBW := Lib.hid hbw
      clear hw2 x2 hb hbw
      go_upto_region 5 with fail
      refine wp_region_lit ?_
      refine l_is (.move (.tmp 3)) rfl rfl (run_move_is (.tmp 3) (.slice (some ⟨X, 0, none⟩) 12 12) rfl rfl _) ?_
      simp only [Act.put, List.setIfInBounds_toArray, List.set_cons_succ, List.set_cons_zero]
      refine l_is (.move (.tmp 4)) rfl rfl (run_move_is (.tmp 4) (.int .i64 (k : Int)) rfl rfl _) ?_
      simp only [Act.put, List.setIfInBounds_toArray, List.set_cons_succ, List.set_cons_zero]
      refine l_is (.move (.tmp 0)) rfl rfl (run_move_is (.tmp 0) (.int .u32 (n : Int)) rfl rfl _) ?_
      simp only [Act.put, List.setIfInBounds_toArray, List.set_cons_succ, List.set_cons_zero]
      refine l_is (.move (.tmp 4)) rfl rfl (run_move_is (.tmp 4) (.int .i64 (k : Int)) rfl rfl _) ?_
      simp only [Act.put, List.setIfInBounds_toArray, List.set_cons_succ, List.set_cons_zero]
      refine l_is (.binOp .mul 3 (.const (.int .i64 8)) (.tmp 14) 3) rfl rfl (run_mul8 (y := .tmp 14) rfl rfl rfl HLT.out _) ?_
      simp only [Act.put, List.setIfInBounds_toArray, List.set_cons_succ, List.set_cons_zero]
      refine l_is (.binOp .shr 44 (.tmp 13) (.tmp 15) 3) rfl rfl (run_shr32 (x := .tmp 13) (y := .tmp 15) rfl rfl rfl (by have := HLT.out; omega) _) ?_
      simp only [Act.put, List.setIfInBounds_toArray, List.set_cons_succ, List.set_cons_zero]
      refine l_is (.convert 44 5 (.tmp 16)) rfl rfl (run_conv8w (x := .tmp 16) rfl rfl HBW.out _) ?_
      simp only [Act.put, List.setIfInBounds_toArray, List.set_cons_succ, List.set_cons_zero]
      refine l_is (.indexAddr 94 (.tmp 11) (.tmp 12)) rfl rfl (run_at_nat (x := .tmp 11) (y := .tmp 12) rfl Tryz.underlying94 size5' rfl rfl (by have := HLT.out; omega) _) ?_
      simp only [Act.put, List.setIfInBounds_toArray, List.set_cons_succ, List.set_cons_zero]
      refine l_skp (w' := w2) (.store 5 (.tmp 18) (.tmp 17)) rfl rfl rfl (by rw [← HW2.out]; exact run_store_mark (x := .tmp 18) (y := .tmp 17) rfl rfl rfl rfl XX.out (by have := HLT.out; have := LL.out; simp [cellsB]; omega) (by have := HLT.out; omega)) ?_
      have hk100 : k ≤ 100 := by have := HLT.out; omega
      clear hcond hltI hlt hk
      go_wp2
      go_roundw
      case rel => exact ⟨k + 1, l.set k b, by go_num, HLT.out, by rw [List.length_set]; exact LL.out, X2.out, B2.out⟩
      case measure => have := HLT.out; simp [RowKit.intOf]; omega
    · have hk4 : k = 4 := by omega
      subst hk4
      have conv := fun (ρ : Operand → Value) (o : Oper) (x : Operand) (ho : o.op = .convert 94 9 x) (hx : ρ x = .slice (some ⟨X, 0, none⟩) 12 12) => run_text_mark ho hx XX.out LL.out
      go_upto_region 6 with fail
      refine wp_region_lit ?_
      refine l_is (.move (.tmp 3)) rfl rfl (run_move_is (.tmp 3) (.slice (some ⟨X, 0, none⟩) 12 12) rfl rfl _) ?_
      simp only [Act.put, List.setIfInBounds_toArray, List.set_cons_succ, List.set_cons_zero]
      refine l_is (.convert 94 9 (.tmp 19)) rfl rfl (run_text_mark (x := .tmp 19) rfl rfl XX.out LL.out) ?_
      simp only [Act.put, List.setIfInBounds_toArray, List.set_cons_succ, List.set_cons_zero]
      go_wp2_with fail
      go_ret
      exact ⟨l, LL.out, rfl, BB.out⟩
end Go.Proofs.YtnlolhlbpdmljaaGreatDoor
namespace Go.Proofs.YtnlolhlbpdmljaaGreatDoor
open Go.ChangeShapes Go.WideShapes Go.RowKit
/-- Behind i commits: the superblock, the tree's pages. -/
structure Whole (V : Nat → B8) (s : SupT) (T : List Nat) (i : Nat) : Prop where
  gen : s.1 = i + 1
  ok : SOk s.1 s.2.1 s.2.2
  sec : SecAt V (s.1 % 2) s
  old : ∃ s', SecAt V ((s.1 + 1) % 2) s' ∧ s'.1 < s.1
  used : ∀ p, p < 240 → (mem s.2.2 p = true ↔ p ∈ T)
  range : ∀ p ∈ T, 2 ≤ p ∧ p < 240
  nd : T.Nodup
  tree : (s.2.1 = 0 ∧ T = []) ∨ ∃ h K, PTree V h 1 s.2.1 0 4294967296 T K ∧ K ≤ i
theorem mem_E30 (i : Nat) (hi : i < 240) : mem E30 i = false := by
  have key : ∀ k : Nat, k < 30 → E30.getD k 0 = 0 := by decide
  unfold mem
  rw [key (i / 8) (by omega)]
  exact Nat.zero_testBit _
theorem cnt_list {ns T : List Nat} (h : ∀ p, p < 240 → (mem ns p = true ↔ p ∈ T)) (hr : ∀ p ∈ T, p < 240) (hn : T.Nodup) : cnt ns 240 = T.length := by
  unfold cnt
  refine List.Perm.length_eq ((List.perm_ext_iff_of_nodup (List.nodup_range.filter _) hn).2 (fun p => ?_))
  rw [List.mem_filter, List.mem_range]
  constructor
  · rintro ⟨h1, h2⟩; exact (h p h1).1 h2
  · intro hp; exact ⟨hr p hp, (h p (hr p hp)).2 hp⟩
section
variable {V : Nat → B8} {s : SupT} {T : List Nat} {i : Nat}
theorem Whole.sets (h : Whole V s T i) : Sets0 s.2.2 E30 E30 :=
  ⟨h.ok.set, E30_set, E30_set, (fun p hp hm => by rw [mem_E30 p hp] at hm; cases hm), (fun p hp hm => by rw [mem_E30 p hp] at hm; cases hm), ⟨h.ok.no0, h.ok.no1⟩, ⟨mem_E30 0 (by omega), mem_E30 1 (by omega)⟩⟩
theorem Whole.both (h : Whole V s T i) : cnt (bothP s.2.2 E30) 240 = T.length := by
  refine cnt_list (fun p hp => ?_) (fun p hp => (h.range p hp).2) h.nd
  rw [mem_both h.ok.set E30_set p hp, mem_E30 p hp, Bool.or_false]
  exact h.used p hp
theorem Whole.count (h : Whole V s T i) : countP s.2.2 = T.length := by
  rw [countP_eq h.ok.set]
  exact cnt_list h.used (fun p hp => (h.range p hp).2) h.nd
/-- Few pages, a low tree. -/
theorem Whole.few (h : Whole V s T i) (hi : i ≤ 60) : (s.2.1 = 0 ∧ T = []) ∨ ∃ hh K, hh ≤ 6 ∧ T.length ≤ 119 ∧ PTree V hh 1 s.2.1 0 4294967296 T K ∧ K ≤ i := by
  rcases h.tree with h0 | ⟨hh, K, ht, hK⟩
  · exact .inl h0
  · have hf := ht.few
    refine .inr ⟨hh, K, ?_, by omega, ht, hK⟩
    rcases Nat.lt_or_ge 6 hh with h7 | h7
    · have : 2 ^ 7 ≤ 2 ^ hh := Nat.pow_le_pow_right (by omega) h7
      omega
    · exact h7
theorem Whole.usedP_E (h : Whole V s T i) : ∀ p ∈ T, mem (usedP s.2.2 E30 E30) p = true := fun p hp => by
  have hr := (h.range p hp).2
  rw [mem_usedP h.ok.set E30_set hr, (h.used p hr).2 hp, mem_E30 p hr]; rfl
/-- The pages, as check.Pages finds them. -/
theorem Whole.pages (h : Whole V s T i) (hi : i ≤ 60) {w : World} {B P d m : Nat} (hp : PAt w B P d V m s E30 E30) :
    Calls Tryz.prog 8 #[.pointer (some ⟨P, 0, none⟩), .int .i64 (s.2.1 : Int)] w fun e w' => ∃ (v : Value) (l : List Nat), e = .returned (.tuple #[v, .nilIface]) ∧ l.Perm T ∧ w'.ownsRow w.heap.size 3 1 v l.length (ints l) ∧ Below w.heap.size w w' := by
  rcases h.few hi with ⟨h0, h1⟩ | ⟨hh, K, h6, hl, ht, hK⟩
  · exact pages_any hp _ T (by rw [h1]; simp) (.inl ⟨h0, h1⟩)
  · exact pages_any hp _ T (by omega) (.inr ⟨hh, K, by omega, ht, h.usedP_E, by omega⟩)
/-- super.Best. -/
theorem Whole.best (h : Whole V s T i) {w : World} {B d n : Nat} (hd : Dsk w B d V n) :
    Calls Tryz.prog 14 #[.pointer (some ⟨d, 0, none⟩)] w fun e w' => e = .returned (.tuple #[.agg (svT s), .nilIface]) ∧ Below w.heap.size w w' := by
  obtain ⟨s', ho, hlt⟩ := h.old
  have hg := h.gen
  rcases Nat.mod_two_eq_zero_or_one s.1 with he | he
  · have e2 : (s.1 + 1) % 2 = 1 := by omega
    have h0 := h.sec
    rw [he] at h0
    rw [e2] at ho
    refine (best_any hd s s' h0 ho).mono ?_
    have hb : better s s' = s := by unfold better; rw [if_neg (by omega)]
    rw [hb]
    rintro e w' ⟨q, hbel⟩
    rw [if_neg (by omega)] at q
    exact ⟨q, hbel⟩
  · have e2 : (s.1 + 1) % 2 = 0 := by omega
    have h0 := h.sec
    rw [he] at h0
    rw [e2] at ho
    refine (best_any hd s' s ho h0).mono ?_
    have hb : better s' s = s := by unfold better; rw [if_pos hlt]
    rw [hb]
    rintro e w' ⟨q, hbel⟩
    rw [if_neg (by omega)] at q
    exact ⟨q, hbel⟩
theorem SecAt.congr {V V' : Nat → B8} {j : Nat} {a : SupT} (h : SecAt V j a) (e : V' j = V j) : SecAt V' j a := by
  rcases h with ⟨h1, h2⟩ | ⟨h1, h2⟩
  · exact .inl ⟨h1, e.trans h2⟩
  · exact .inr ⟨h1, e.trans h2⟩
/-- A pair was put, and all committed. -/
theorem Whole.next (h : Whole V s T i) (hi : i < 4000000000) {V' : Nat → B8} {Fr' Go' ps' : List Nat} {r h' K' : Nat} (t : Turn s.2.2 E30 E30 V T Fr' Go' V' ps') (ht : PTree V' h' 1 r 0 4294967296 ps' K') (hK : K' ≤ i + 1) :
    (2 ≤ r ∧ r < 240 ∧ mem (usedP s.2.2 Fr' Go') r = true ∧ mem (usedP s.2.2 Fr' Go') 0 = false ∧ mem (usedP s.2.2 Fr' Go') 1 = false) ∧ (∀ p ∈ T, V' p = V p) ∧
    Whole (upd V' ((s.1 + 1) % 2) (laidP 1 (slay (s.1 + 1) r (usedP s.2.2 Fr' Go')))) (s.1 + 1, r, usedP s.2.2 Fr' Go') ps' (i + 1) := by
  have hus : ∀ p, p < 240 → (mem (usedP s.2.2 Fr' Go') p = true ↔ p ∈ ps') := fun p hp => by
    have hl := t.live p hp
    have e1 : mem (usedP s.2.2 Fr' Go') p = true ↔ alive s.2.2 Fr' Go' p := by
      rw [mem_usedP t.s.su t.s.sf hp]
      unfold alive
      cases mem s.2.2 p <;> cases mem Fr' p <;> cases mem Go' p <;> simp
    rw [e1, hl]
    constructor
    · rintro (⟨⟨a, _⟩, b⟩ | h1)
      · rcases a with a | a
        · exact absurd ((h.used p hp).1 a) b
        · rw [mem_E30 p hp] at a; cases a
      · exact h1
    · exact .inr
  have hrange := ht.range
  have h0 : mem (usedP s.2.2 Fr' Go') 0 = false := by
    cases hq : mem (usedP s.2.2 Fr' Go') 0 with
    | false => rfl
    | true => have := hrange 0 ((hus 0 (by omega)).1 hq); omega
  have h1 : mem (usedP s.2.2 Fr' Go') 1 = false := by
    cases hq : mem (usedP s.2.2 Fr' Go') 1 with
    | false => rfl
    | true => have := hrange 1 ((hus 1 (by omega)).1 hq); omega
  have hpg := ht.page
  have hr : mem (usedP s.2.2 Fr' Go') r = true := (hus r hpg.2.2).2 hpg.1
  have hg := h.gen
  have hsok : SOk (s.1 + 1) r (usedP s.2.2 Fr' Go') := ⟨usedP_set t.s.su t.s.sf, by omega, by omega, .inr ⟨hpg.2.1, hpg.2.2, hr⟩, h0, h1⟩
  refine ⟨⟨hpg.2.1, hpg.2.2, hr, h0, h1⟩, fun p hp => t.same p (h.range p hp).2 (.inl ((h.used p (h.range p hp).2).2 hp)), ?_⟩
  refine ⟨by show s.1 + 1 = _; omega, hsok, .inr ⟨hsok, ?_⟩, ⟨s, ?_, by show s.1 < s.1 + 1; omega⟩, hus, hrange, ht.nodup, .inr ⟨h', K', ht.congr (fun p hp => ?_), hK⟩⟩
  · show upd _ _ _ ((s.1 + 1) % 2) = _
    unfold upd; rw [if_pos rfl]
  · show SecAt _ ((s.1 + 1 + 1) % 2) s
    rw [show (s.1 + 1 + 1) % 2 = s.1 % 2 by omega]
    refine h.sec.congr ?_
    have : s.1 % 2 ≠ (s.1 + 1) % 2 := by omega
    unfold upd
    rw [if_neg this]
    exact t.same _ (by omega) (.inr (.inr (by omega)))
  · have := hrange p hp
    unfold upd
    rw [if_neg (by omega)]
/-- tree.Put, at what holds between two commits. -/
theorem Whole.put (h : Whole V s T i) (hi : i < 60) {w : World} {B P d : Nat} (hp : PAt w B P d V 0 s E30 E30) (x : Nat) (b : B8) (hb : b.length = 12) (h32 : x ≤ 4294967295) :
    Calls Tryz.prog 11 #[.pointer (some ⟨P, 0, none⟩), .int .i64 (s.2.1 : Int), .int .i64 (x : Int), .string (strB b)] w fun e w' => ∃ (V' : Nat → B8) (m' : Nat) (Fr' Go' : List Nat) (r : Nat) (ps' : List Nat) (K' h' : Nat), e = .returned (.tuple #[.int .i64 (r : Int), .nilIface]) ∧ PAt w' B P d V' m' s Fr' Go' ∧ KT B isPg w w' ∧ Turn s.2.2 E30 E30 V T Fr' Go' V' ps' ∧ PTree V' h' 1 r 0 4294967296 ps' K' ∧ K' ≤ i + 1 := by
  have hbo := h.both
  rcases h.few (by omega) with ⟨h0, h1⟩ | ⟨hh, K, h6, hl, ht, hK⟩
  · subst h1
    rw [h0]
    have hc : cnt (bothP s.2.2 E30) 240 < 238 := by rw [hbo]; simp
    refine (put_first hp h.sets x b hb h32 (by omega) hc).mono ?_
    rintro e w' ⟨V', m', Fr', Go', r, ps', K', h', rfl, q1, q2, q3, q4, q5, q6⟩
    exact ⟨V', m', Fr', Go', r, ps', K', h', rfl, q1, q2, q4, q5, by omega⟩
  · have hpre : Pre s.2.2 E30 T := fun p hp => ⟨(h.range p hp).2, (h.range p hp).1, (h.used p (h.range p hp).2).2 hp, mem_E30 p (h.range p hp).2⟩
    refine (put_next hp h.sets x b hb h32 ht hpre (by omega) (by omega) (by omega)).mono ?_
    rintro e w' ⟨V', m', Fr', Go', r, ps', K', h', rfl, q1, q2, q3, q4, q5, q6⟩
    exact ⟨V', m', Fr', Go', r, ps', K', h', rfl, q1, q2, q4, q5, by omega⟩
end
/-- Before the first commit but pager.Format's own. -/
theorem whole_new : Whole (upd (fun _ => zeros 128) 1 (laidP 1 (slay 1 0 E30))) (1, 0, E30) [] 0 := by
  have hsok : SOk 1 0 E30 := ⟨E30_set, by omega, by omega, .inl rfl, by decide, by decide⟩
  refine ⟨rfl, hsok, .inr ⟨hsok, by unfold upd; rfl⟩, ⟨zT, .inl ⟨rfl, by unfold upd; rfl⟩, by show 0 < 1; omega⟩, fun p hp => ?_, (fun p hp => by cases hp), List.nodup_nil, .inl ⟨rfl, rfl⟩⟩
  show mem E30 p = true ↔ _
  rw [mem_E30 p hp]
  exact ⟨(fun h => by cases h), (fun h => by cases h)⟩
end Go.Proofs.YtnlolhlbpdmljaaGreatDoor
