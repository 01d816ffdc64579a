/-
  tree.insert in a leaf: what holds while it runs; the leaf that has the key.
  Conditions: there is room.
-/
import Derived.Test.YtnlolhlbpdmljaaGreatDoorTreS
namespace Go.Proofs.YtnlolhlbpdmljaaGreatDoor
open Go.ChangeShapes Go.WideShapes Go.RowKit
theorem PAt.moved {w w' : World} {B P d : Nat} {V : Nat → B8} {m : Nat} {s : SupT} {Fr Go : List Nat} (h : PAt w B P d V m s Fr Go) (hb : ∀ (k : Nat) (cs : Array Value) (t : TypeId), w.heap[k]? = some (Obj.cells cs t (0, 0)) → isPg t = true → w'.heap[k]? = w.heap[k]?) : PAt w' B P d V m s Fr Go := by
  refine ⟨(hb _ _ _ h.obj rfl).trans h.obj, ?_, h.su, h.sf, h.sg, h.low⟩
  obtain ⟨g, v, F, L, h1, h2⟩ := h.dsk
  refine ⟨g, v, F, L, ⟨(hb _ _ _ h1.obj rfl).trans h1.obj, (hb _ _ _ h1.row rfl).trans h1.row, h1.len, h1.page, own_row h1.own (fun q hq => ?_), h1.small, h1.lpage, h1.low⟩, h2⟩
  rcases h1.own.2 with ⟨rfl, _⟩ | ⟨g', cap, cur, rfl, _, hh, _⟩
  · cases hq
  · have : g' = q := by injection hq
    subst this
    exact hb _ _ _ hh rfl
section
variable {ρ : Operand → Value} {o : Oper}
theorem run_fld93_0 {x : Operand} (ho : o.op = .fieldAddr 93 x 0) {d : Nat} (hx : ρ x = .pointer (some ⟨d, 0, none⟩)) (w : World) : (execOp ρ o).run Tryz.prog w = .ok (.value (.pointer (some ⟨d, 0, none⟩))) w := by
  unfold execOp; rw [ho]; simp [hx, go_sem]
theorem run_fld93_1 {x : Operand} (ho : o.op = .fieldAddr 93 x 1) {d : Nat} (hx : ρ x = .pointer (some ⟨d, 0, none⟩)) (w : World) : (execOp ρ o).run Tryz.prog w = .ok (.value (.pointer (some ⟨d, 1, none⟩))) w := by
  unfold execOp; rw [ho]; simp [hx, go_sem]
theorem run_store_c1 {t : TypeId} (hs : (Tryz.prog.info? t).map (·.size) = some 1) {x y : Operand} (ho : o.op = .store t x y) {d j : Nat} {v : Value} {cs : Array Value} {t0 : TypeId} {w : World}
    (hx : ρ x = .pointer (some ⟨d, j, none⟩)) (hy : ρ y = v) (h1 : v.oneCell' = true) (h : w.heap[d]? = some (.cells cs t0 (0, 0))) (hj : j < cs.size) : (execOp ρ o).run Tryz.prog w = .ok .skip (w.setCell ⟨d, j, none⟩ v) := by
  have hf := frozen_of_row w d j cs t0 h
  have hc := cell_of_row w d j cs t0 (0, 0) h
  rw [Array.getElem?_eq_getElem hj] at hc
  unfold execOp
  rw [ho]
  have hv : v.cells = #[v] := by cases v <;> first | rfl | cases h1
  have h2 := run_storeCells_cells (P := Tryz.prog) d j [v] 0 w (by intro i hi; have : i = 0 := by simpa using hi
                                                                   subst this; simp [hc]) (by intro i hi; have : i = 0 := by simpa using hi
                                                                                              subst this; exact hf) (by simpa using h1)
  have h3 : (storeCells ⟨d, j, none⟩ [v]).run Tryz.prog w = .ok () (w.setCell ⟨d, j, none⟩ v) := h2
  simp [hx, hy, Instr.storeAt, Instr.sureAddr, storeVar, hv, Sem.run_bind, run_size hs, h3]
end
section
variable {ops : Array Oper} {rest : List Oper} {o : Oper} {a : Act} {w w' : World} {Q : Exit → Act → World → Prop}
theorem l_skp (p : Op) (_hp : o.op = p) (hgd : o.guard = none) (hd : o.dst = none) (hr : (execOp a.eval o).run Tryz.prog w = .ok .skip w') (h : wpList Tryz.prog ops Q rest a w') : wpList Tryz.prog ops Q (o :: rest) a w :=
  wpList_plain hgd fun K hK => by
    unfold Oper.wp
    rw [hr]
    have e : a.put o.dst undef = a := by rw [hd]; rfl
    show K (a.put o.dst undef) w'
    rw [e]
    exact hK _ _ h
end
theorem size9 : (Tryz.prog.info? 9).map (·.size) = some 1 := by kernel_rfl
theorem size3' : (Tryz.prog.info? 3).map (·.size) = some 1 := by kernel_rfl
/-- What holds while tree.insert runs, but the node's rows. -/
structure In0 (w0 w : World) (S R N B P d : Nat) (V : Nat → B8) (m : Nat) (s : SupT) (Fr Go : List Nat) (x : Nat) (b : B8) (cs : Array Value) : Prop where
  p : PAt w B P d V m s Fr Go
  pair : w.heap[S]? = some (.cells #[.int .i64 (x : Int), .string (strB b)] 93 (0, 0))
  res : w.heap[R]? = some (.cells L89 89 (0, 0))
  nd : w.heap[N]? = some (.cells cs 87 (0, 0))
  kt : KT B isPg w0 w
  low : w0.heap.size ≤ S ∧ w0.heap.size ≤ R ∧ w0.heap.size ≤ N
  apart : S ≠ N ∧ R ≠ N
/-- Rows alone turned. -/
def Rows3 (w0 w : World) (T : Nat → Prop) : Prop := ∀ q, T q → w0.heap.size ≤ q ∧ ∃ cs e, w.heap[q]? = some (.cells cs e (0, 0)) ∧ (e = 3 ∨ e = 9)
theorem row_kept {w0 w w' : World} {T : Nat → Prop} (hT : Rows3 w0 w T) (k : Kept T w w') {g : Nat} {cs : Array Value} {t : TypeId} (hg : w.heap[g]? = some (.cells cs t (0, 0))) (h3 : t ≠ 3) (h9 : t ≠ 9) : w'.heap[g]? = some (.cells cs t (0, 0)) :=
  (k.block g (row_lt hg) (fun e => by
    obtain ⟨_, cs', e', he, ho⟩ := hT g e
    rw [hg] at he
    injection he with he
    injection he with _ he _
    subst he
    rcases ho with h | h
    · exact h3 h
    · exact h9 h)).trans hg
theorem kt_rows {w0 w w' : World} {B : Nat} {T : Nat → Prop} (hT : Rows3 w0 w T) (k : Kept T w w') (h : KT B isPg w0 w) : KT B isPg w0 w' :=
  ⟨k.os.trans h.os, k.tape.trans h.tape, k.output.trans h.output, Nat.le_trans h.size k.size, fun q hq hu => (k.block q (Nat.lt_of_lt_of_le hq h.size) (fun e => by have := (hT q e).1; omega)).trans (h.block q hq hu)⟩
theorem rows_own {w0 w : World} {B e n : Nat} {v : Value} {xs : List Value} (ho : w.ownsRow B e 1 v n xs) (he : e = 3 ∨ e = 9) (hB : w0.heap.size ≤ B) : Rows3 w0 w (fun q => v.ownBlock = some q) := by
  intro q hq
  rcases ho.2 with ⟨rfl, _⟩ | ⟨g, cap, cur, rfl, hb, hh, _⟩
  · cases hq
  · have : g = q := by injection hq
    subst this
    exact ⟨by omega, cur, e, hh, he⟩
section
variable {w0 w w' : World} {S R N B P d : Nat} {V : Nat → B8} {m : Nat} {s : SupT} {Fr Go : List Nat} {x : Nat} {b : B8} {cs : Array Value}
theorem In0.rows (h : In0 w0 w S R N B P d V m s Fr Go x b cs) {T : Nat → Prop} (hT : Rows3 w0 w T) (k : Kept T w w') : In0 w0 w' S R N B P d V m s Fr Go x b cs :=
  ⟨h.p.moved (fun q cs t hq ht => (row_kept hT k hq (fun e => by subst e; cases ht) (fun e => by subst e; cases ht)).trans hq.symm), row_kept hT k h.pair (by decide) (by decide), row_kept hT k h.res (by decide) (by decide), row_kept hT k h.nd (by decide) (by decide), kt_rows hT k h.kt, h.low, h.apart⟩
theorem In0.below (h : In0 w0 w S R N B P d V m s Fr Go x b cs) (k : Below w.heap.size w w') : In0 w0 w' S R N B P d V m s Fr Go x b cs :=
  h.rows (T := fun _ => False) (fun _ e => e.elim) (Kept.of_below k _)
theorem In0.drew (h : In0 w0 w S R N B P d V m s Fr Go x b cs) : In0 w0 w.drew S R N B P d V m s Fr Go x b cs := h.below (Below.refl _ _).drew
theorem In0.turn {m' : Nat} {V' : Nat → B8} {Fr' Go' : List Nat} (h : In0 w0 w S R N B P d V m s Fr Go x b cs) (hp : PAt w' B P d V' m' s Fr' Go') (k : KT B isPg w w') : In0 w0 w' S R N B P d V' m' s Fr' Go' x b cs :=
  ⟨hp, k.cells h.pair rfl, k.cells h.res rfl, k.cells h.nd rfl, h.kt.trans k, h.low, h.apart⟩
/-- A cell of the node. -/
theorem In0.cell (h : In0 w0 w S R N B P d V m s Fr Go x b cs) (j : Nat) (u : Value) : In0 w0 (w.setCell ⟨N, j, none⟩ u) S R N B P d V m s Fr Go x b (cs.setIfInBounds j u) := by
  have ho : ∀ q, q ≠ N → (w.setCell ⟨N, j, none⟩ u).heap[q]? = w.heap[q]? := fun q hq => heap_setCell_other w ⟨N, j, none⟩ q u hq
  refine ⟨h.p.moved (fun q cs t hq ht => ho q (fun e => by subst e; rw [h.nd] at hq; injection hq with hq; injection hq with _ hq _; subst hq; cases ht)), (ho S h.apart.1).trans h.pair, (ho R h.apart.2).trans h.res, heap_setCell_row h.nd u, ?_, h.low, h.apart⟩
  exact ⟨h.kt.os, h.kt.tape, h.kt.output, by rw [setCell_size]; exact h.kt.size, fun q hq hu => (ho q (by have := h.low; omega)).trans (h.kt.block q hq hu)⟩
theorem In0.key (h : In0 w0 w S R N B P d V m s Fr Go x b cs) : w.cell? ⟨S, 0, none⟩ = some (.int .i64 (x : Int)) := cell_of_row w S 0 _ 93 (0, 0) h.pair
theorem In0.val (h : In0 w0 w S R N B P d V m s Fr Go x b cs) : w.cell? ⟨S, 1, none⟩ = some (.string (strB b)) := cell_of_row w S 1 _ 93 (0, 0) h.pair
end
/-- tree.insert's answer. -/
def Inserted (w : World) (B P d : Nat) (V : Nat → B8) (m : Nat) (s : SupT) (Fr Go : List Nat) (h mn lo hi : Nat) (ps : List Nat) (K : Nat) (e : Ending) (w' : World) : Prop :=
  ∃ V' m' Fr' Go' l r key two, e = .returned (.tuple #[.agg (gv l r key two), .nilIface]) ∧ PAt w' B P d V' m' s Fr' Go' ∧ KT B isPg w w' ∧ m' ≤ m + 2 * h ∧ Grew s.2.2 Fr Go V h mn lo hi ps K V' Fr' Go' l r key two
theorem strs_set (l : List B8) (k : Nat) (b : B8) : strs (l.set k b) = (strs l).set k (.string (strB b)) := by unfold strs; rw [List.map_set]
theorem ints_set (l : List Nat) (k x : Nat) : ints (l.set k x) = (ints l).set k (.int .i64 (x : Int)) := by unfold ints; rw [List.map_set]
set_option maxRecDepth 100000 in
set_option maxHeartbeats 4000000 in
theorem insert_found {w : World} {B P d : Nat} {V : Nat → B8} {m : Nat} {s : SupT} {Fr Go : List Nat} (hp : PAt w B P d V m s Fr Go) (at_ depth x : Nat) (b : B8) (n : PN) (hat : at_ < 240) (hdep : depth ≤ 12) (hu : mem s.2.2 at_ = true) (hfr : mem Fr at_ = false) (hgo : mem Go at_ = false) (hV : V at_ = laidP 2 (nlay n)) (hr : NRight n) (hl : n.kids = []) (hx : x ∈ n.keys)
    {mn lo hi : Nat} {ps : List Nat} {K : Nat} (hmid : Mid s.2.2 Fr Go V 0 mn lo hi ps K Fr (withP Go (at_ : Int)) V ⟨n.keys, n.vals.set (lessN n.keys x) b, n.kids⟩) (hm : m + 2 < 100000) (hroom : cnt (bothP s.2.2 Fr) 240 + 2 ≤ 238) :
    Calls Tryz.prog 28 #[.pointer (some ⟨P, 0, none⟩), .int .i64 (at_ : Int), .int .i64 (depth : Int), .agg #[.int .i64 (x : Int), .string (strB b)]] w (Inserted w B P d V m s Fr Go 1 mn lo hi ps K) := by
  obtain ⟨S, hS⟩ : ∃ S, S = w.heap.size := ⟨_, rfl⟩
  obtain ⟨R, hR⟩ : ∃ S, S = w.heap.size + 1 := ⟨_, rfl⟩
  obtain ⟨W1, hW1⟩ : ∃ W, W = (w.alloc (.cells #[.int .i64 (x : Int), .string (strB b)] 93)).alloc (.cells L89 89) := ⟨_, rfl⟩
  have S1 := Lib.hid (show W1.heap[S]? = some (.cells #[.int .i64 (x : Int), .string (strB b)] 93 (0, 0)) by rw [hW1, hS]; exact heap_alloc2_old _ _ _)
  have R1 := Lib.hid (show W1.heap[R]? = some (.cells L89 89 (0, 0)) by rw [hW1, hR]; exact heap_alloc2_new _ _ _)
  have b1 : Below w.heap.size w W1 := by rw [hW1]; exact ((Below.refl _ _).alloc (Nat.le_refl _) _).alloc (by simp) _
  have B1 := Lib.hid b1
  have SR := Lib.hid (show w.heap.size ≤ S ∧ w.heap.size ≤ R by omega)
  have LD := Lib.hid (tload_any (hp.below b1) at_ depth n hat hdep (by rw [hu]; rfl) hV hr)
  have PD := Lib.hid (show ∀ w', PAt w' B P d V m s Fr Go → _ from fun w' q => pdrop_any q at_ hat hu hfr hgo)
  have HP1 := Lib.hid (hp.below b1)
  have LEAF := Lib.hid leaf_any
  have HS := Lib.hid hS
  have HR := Lib.hid hR
  have HW1 := Lib.hid hW1
  clear hS hR hW1 b1 hp hdep hV hu hfr hgo
  go_enter Tryz.func28, Tryz.ntmps28
  go_upto_region 1 with fail
  rw [← HW1.out, ← HR.out, ← HS.out]
  go_wp2_with fail
  refine LD.out.mono ?_
  rintro e w2 ⟨vK, vV, vC, rfl, ho, hb2⟩
  obtain ⟨N, hN⟩ : ∃ N, N = w2.heap.size := ⟨_, rfl⟩
  obtain ⟨W3, hW3⟩ : ∃ W, W = w2.alloc (.cells #[nilS, nilS, nilS] 87) := ⟨_, rfl⟩
  obtain ⟨U3, hU3⟩ : ∃ W, W = W3.setRow N #[vK, vV, vC] := ⟨_, rfl⟩
  have n3 : W3.heap[N]? = some (.cells #[nilS, nilS, nilS] 87 (0, 0)) := by rw [hW3, hN]; exact heap_alloc_new _ _
  have b3 : Below w2.heap.size w2 W3 := by rw [hW3]; exact (Below.refl _ _).alloc (Nat.le_refl _) _
  have b4 : Below w2.heap.size w2 U3 := by rw [hU3]; exact below_setRow b3 (by omega) _
  have b5 := hb2.trans (b4.mono hb2.size)
  have I3 := Lib.hid (show In0 w U3 S R N B P d V m s Fr Go x b #[vK, vV, vC] from ⟨HP1.out.below b5, (b5.block S (row_lt S1.out)).trans S1.out, (b5.block R (row_lt R1.out)).trans R1.out, by rw [hU3]; exact setRow_has n3, KT.of_below (B1.out.trans (b5.mono B1.out.size)) B isPg, ⟨SR.out.1, SR.out.2, by have := B1.out.size; have := hb2.size; omega⟩, ⟨by have := row_lt S1.out; have := hb2.size; omega, by have := row_lt R1.out; have := hb2.size; omega⟩⟩)
  have O3 := Lib.hid ((ho.base B1.out.size).below b4)
  have ONE := Lib.hid (node_one ho)
  have HN := Lib.hid hN
  have HW3 := Lib.hid hW3
  have HU3 := Lib.hid hU3.symm
  clear hN hW3 hU3 n3 b3 b4 b5 ho hb2
  have N3 := Lib.hid (heap_alloc_new w2 (.cells #[nilS, nilS, nilS] 87))
  go_wp2_with (refine wpList_store_row rfl 87 (.tmp 10) (.tmp 22) rfl w2.heap.size #[vK, vV, vC] rfl rfl 87 #[nilS, nilS, nilS] N3.out size87 rfl ONE.out ?_)
  rw [← HW3.out, ← HN.out, HU3.out]
  refine (PD.out _ I3.out.p).mono ?_
  rintro e w4 ⟨rfl, hp4, hk4⟩
  have I4 := Lib.hid (I3.out.turn hp4 hk4)
  have O4 := Lib.hid (O3.out.kt hk4)
  clear hp4 hk4
  go_upto_region 7 with fail
  refine wp_region_lit ?_
  refine l_is (.load 87 (.tmp 10)) rfl rfl (run_ld_node (x := .tmp 10) rfl rfl I4.out.nd) ?_
  go_wp2_with fail
  refine (LEAF.out w4 _ n O4.out.at).mono ?_
  rintro e w5 ⟨rfl, hb5⟩
  have I5 := Lib.hid (I4.out.below hb5)
  have O5 := Lib.hid (O4.out.below hb5)
  clear hb5
  have hz : decide (n.kids.length = 0) = true := by rw [hl]; rfl
  rw [hz]
  go_upto_region 8 with fail
  have c5 := I5.out.key
  refine wp_region_lit ?_
  refine l_is (.load 87 (.tmp 10)) rfl rfl (run_ld_node (x := .tmp 10) rfl rfl I5.out.nd) ?_
  go_wp2_with fail
  refine (seek_any w5 _ n x O5.out.at hr).mono ?_
  rintro e w6 ⟨rfl, hb6⟩
  have I6 := Lib.hid (I5.out.below hb6)
  have O6 := Lib.hid (O5.out.below hb6)
  clear hb6 c5
  have hxd : decide (x ∈ n.keys) = true := decide_eq_true hx
  rw [hxd]
  go_upto_region 10 with fail
  have hlv : n.vals.length = n.keys.length := by
    rcases hr.shape with ⟨_, h, _⟩ | ⟨_, _, h, _⟩
    · exact h
    · rw [hl] at h; simp at h
  have hkl := less_at hr.keys.2.2 hx
  have O6' := Lib.hid O6.out.vals
  obtain ⟨gV, cV, rfl, hcV⟩ := own_cap O6.out.vals (by omega)
  have hk0 : lessN n.keys x < n.vals.length := by omega
  obtain ⟨k, hk⟩ : ∃ k, k = lessN n.keys x := ⟨_, rfl⟩
  rw [← hk] at hk0 hmid ⊢
  have HK := Lib.hid hk
  obtain ⟨w7, hw7⟩ : ∃ w7, w7 = w6.setCell ⟨gV, k, none⟩ (.string (strB b)) := ⟨_, rfl⟩
  have hst := O6'.out.stored k (.string (strB b))
  obtain ⟨csV, hgV, hkV⟩ : ∃ cs, w6.heap[gV]? = some (.cells cs 9 (0, 0)) ∧ k < cs.size := by
    rcases O6'.out.2 with ⟨h, _⟩ | ⟨g, cap, cur, h, _, hh, _, _, h2, _⟩
    · cases h
    · injection h with h1 _ h3
      injection h1 with h1
      injection h1 with h1 _ _
      subst h1 h3
      exact ⟨cur, hh, by omega⟩
  have RW := Lib.hid (rows_own (w0 := w) O6'.out (.inr rfl) (Nat.le_refl _))
  have KV : Kept (fun q => (Value.slice (some ⟨gV, 0, none⟩) n.vals.length cV).ownBlock = some q) w6 w7 := by rw [hw7]; exact ⟨rfl, rfl, rfl, by rw [setCell_size]; exact Nat.le_refl _, fun q _ hq => heap_setCell_other w6 ⟨gV, k, none⟩ q _ (fun e => hq (by rw [e]; rfl))⟩
  have I7 := Lib.hid (I6.out.rows RW.out KV)
  have O7 := Lib.hid (show NOwn w7 w.heap.size vK (.slice (some ⟨gV, 0, none⟩) n.vals.length cV) vC ⟨n.keys, n.vals.set k b, n.kids⟩ from ⟨own_row O6.out.keys (fun q hq => KV.block q (O6.out.keys.lt q hq).2 (fun e => by
      obtain ⟨_, cs, e', h, _⟩ := RW.out q e
      have e1 : gV = q := by injection e
      subst e1
      obtain ⟨_, cs2, e2, h2, h3⟩ := rows_own (w0 := w) O6.out.keys (.inl rfl) (Nat.le_refl _) gV hq
      rcases O6.out.keys.2 with ⟨hz, _⟩ | ⟨g, cap, cur, hz, _, hh, _⟩
      · rw [hz] at hq; cases hq
      · rw [hz] at hq; injection hq with hq; subst hq; rw [hgV] at hh; injection hh with hh; injection hh with _ hh _; cases hh)), by
      rw [hw7]
      have := hst.1
      rw [← strs_set] at this
      rw [List.length_set]
      exact this, own_row O6.out.kids (fun q hq => KV.block q (O6.out.kids.lt q hq).2 (fun e => by
      have e1 : gV = q := by injection e
      subst e1
      rcases O6.out.kids.2 with ⟨hz, _⟩ | ⟨g, cap, cur, hz, _, hh, _⟩
      · rw [hz] at hq; cases hq
      · rw [hz] at hq; injection hq with hq; subst hq; rw [hgV] at hh; injection hh with hh; injection hh with _ hh _; cases hh)), O6.out.dj⟩)
  have HG := Lib.hid hgV
  have HW7 := Lib.hid hw7.symm
  clear hkl hlv hk hcV hxd hz hst KV hgV hw7
  refine wp_region_lit ?_
  refine l_is (.fieldAddr 87 (.tmp 10) 1) rfl rfl (run_fld87_1 (x := .tmp 10) (d := N) rfl rfl _) ?_
  simp only [Act.put, List.setIfInBounds_toArray, List.set_cons_succ, List.set_cons_zero]
  refine l_is (.load 85 (.tmp 45)) rfl rfl (run_load_slice Tryz.underlying85 (x := .tmp 45) (a := ⟨N, 1, none⟩) rfl rfl (cell_of_row w6 N 1 _ 87 (0, 0) I6.out.nd)) ?_
  simp only [Act.put, List.setIfInBounds_toArray, List.set_cons_succ, List.set_cons_zero]
  refine l_is (.move (.tmp 13)) rfl rfl (run_move_is (.tmp 13) (.int .i64 (k : Int)) rfl rfl _) ?_
  simp only [Act.put, List.setIfInBounds_toArray, List.set_cons_succ, List.set_cons_zero]
  refine l_is (.fieldAddr 93 (.tmp 7) 1) rfl rfl (run_fld93_1 (x := .tmp 7) (d := S) rfl rfl _) ?_
  simp only [Act.put, List.setIfInBounds_toArray, List.set_cons_succ, List.set_cons_zero]
  refine l_is (.load 9 (.tmp 48)) rfl rfl (run_load_str (x := .tmp 48) (a := ⟨S, 1, none⟩) rfl rfl I6.out.val) ?_
  simp only [Act.put, List.setIfInBounds_toArray, List.set_cons_succ, List.set_cons_zero]
  refine l_is (.indexAddr 85 (.tmp 46) (.tmp 47)) rfl rfl (run_at_nat (x := .tmp 46) (y := .tmp 47) rfl Tryz.underlying85 size9 rfl rfl hk0 _) ?_
  simp only [Act.put, List.setIfInBounds_toArray, List.set_cons_succ, List.set_cons_zero]
  refine l_skp (w' := w7) (.store 9 (.tmp 50) (.tmp 49)) rfl rfl rfl (by rw [← HW7.out]; exact run_store_c1 size9 (x := .tmp 50) (y := .tmp 49) rfl rfl rfl rfl HG.out hkV) ?_
  go_upto_region 12 with fail
  refine wp_region_lit ?_
  refine l_is (.move (.tmp 0)) rfl rfl (run_move_is (.tmp 0) (.pointer (some ⟨P, 0, none⟩)) rfl rfl _) ?_
  simp only [Act.put, List.setIfInBounds_toArray, List.set_cons_succ, List.set_cons_zero]
  refine l_is (.load 87 (.tmp 10)) rfl rfl (run_ld_node (x := .tmp 10) rfl rfl I7.out.nd) ?_
  simp only [Act.put, List.setIfInBounds_toArray, List.set_cons_succ, List.set_cons_zero]
  go_wp2_with fail
  refine (parted_any I7.out.p _ _ _ _ O7.out hmid (by omega) hroom).mono ?_
  rintro e w8 ⟨V', m', Fr', l, r, key, two, rfl, hp8, hk8, hm8, hgr⟩
  have R8 := Lib.hid (hk8.cells I7.out.res rfl)
  have P8 := Lib.hid hp8
  have K8 := Lib.hid hk8
  have M8 := Lib.hid hm8
  have G8 := Lib.hid hgr
  clear hp8 hk8 hm8 hgr
  go_wp2_with (refine wpList_store_row rfl 89 (.tmp 8) (.tmp 70) rfl R (gv l r key two) rfl rfl 89 L89 R8.out size89 rfl (gv_one _ _ _ _) ?_)
  exact bodyPost_ret (results_grown rfl _ _ R .nilIface rfl (setRow_has R8.out) rfl rfl) rfl ⟨V', m', Fr', _, l, r, key, two, rfl, P8.out.setRow R8.out rfl _, (I7.out.kt.trans K8.out).setRow_new SR.out.2 _, by have := M8.out; omega, G8.out⟩
end Go.Proofs.YtnlolhlbpdmljaaGreatDoor
