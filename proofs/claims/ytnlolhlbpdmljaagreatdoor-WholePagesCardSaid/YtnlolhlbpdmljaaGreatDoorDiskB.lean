/-
  The disk in memory: what it holds, and which blocks its acts may turn. What Disk.may, Disk.Size and Disk.Write do. Disk.Write.
  Conditions: none.
-/
import Derived.Test.YtnlolhlbpdmljaaGreatDoorFrameR
import Derived.Great.BuildSlice
namespace Go.Proofs.YtnlolhlbpdmljaaGreatDoor
open Go.ChangeShapes Go.WideShapes Go.RowKit

/-- Nothing that was there turned, but blocks from B on whose type is one of T. -/
structure KT (B : Nat) (T : TypeId → Bool) (w w' : World) : Prop where
  os : w'.os = w.os
  tape : w'.tape = w.tape
  output : w'.output = w.output
  size : w.heap.size ≤ w'.heap.size
  block : ∀ k, k < w.heap.size → (k < B ∨ ∀ cs t fr, w.heap[k]? = some (.cells cs t fr) → T t = false) → w'.heap[k]? = w.heap[k]?
theorem KT.refl (B : Nat) (T : TypeId → Bool) (w : World) : KT B T w w := ⟨rfl, rfl, rfl, Nat.le_refl _, fun _ _ _ => rfl⟩
theorem KT.trans {B : Nat} {T : TypeId → Bool} {a b c : World} (h : KT B T a b) (k : KT B T b c) : KT B T a c :=
  ⟨k.os.trans h.os, k.tape.trans h.tape, k.output.trans h.output, Nat.le_trans h.size k.size, fun x hx hu => (k.block x (Nat.lt_of_lt_of_le hx h.size) (by
    rcases hu with e | e
    · exact .inl e
    · refine .inr (fun cs t fr he => e cs t fr ?_)
      rw [← h.block x hx (.inr e)]; exact he)).trans (h.block x hx hu)⟩
theorem KT.of_below {w w' : World} (h : Below w.heap.size w w') (B : Nat) (T : TypeId → Bool) : KT B T w w' := ⟨h.os, h.tape, h.output, h.size, fun k hk _ => h.block k hk⟩
theorem KT.below {B : Nat} {T : TypeId → Bool} {w w' : World} (h : KT B T w w') (hB : B ≤ w.heap.size) : Below B w w' := ⟨h.os, h.tape, h.output, h.size, fun k hk => h.block k (by omega) (.inl hk)⟩
theorem KT.more {B : Nat} {T T' : TypeId → Bool} {w w' : World} (h : KT B T w w') (ht : ∀ t, T t = true → T' t = true) : KT B T' w w' := ⟨h.os, h.tape, h.output, h.size, fun k hk hu => h.block k hk (by
  rcases hu with e | e
  · exact .inl e
  · refine .inr (fun cs t fr he => ?_)
    have := e cs t fr he
    cases hT : T t with
    | false => rfl
    | true => rw [ht t hT] at this; cases this)⟩
/-- One block turned, of a type of T. -/
theorem KT.one {B : Nat} {T : TypeId → Bool} {w w' : World} {g : Nat} {cs : Array Value} {t : TypeId} {fr : Nat × Nat} (hg : w.heap[g]? = some (.cells cs t fr)) (hB : B ≤ g) (ht : T t = true) (ho : w'.os = w.os) (hta : w'.tape = w.tape) (hou : w'.output = w.output) (hs : w.heap.size ≤ w'.heap.size) (hb : ∀ k, k < w.heap.size → k ≠ g → w'.heap[k]? = w.heap[k]?) : KT B T w w' :=
  ⟨ho, hta, hou, hs, fun k hk hu => hb k hk (fun e => by
    subst e
    rcases hu with h | h
    · omega
    · have := h _ _ _ hg; rw [ht] at this; cases this)⟩
theorem KT.cells {B : Nat} {T : TypeId → Bool} {w w' : World} (h : KT B T w w') {g : Nat} {cs : Array Value} {t : TypeId} {fr : Nat × Nat} (hg : w.heap[g]? = some (.cells cs t fr)) (ht : T t = false) : w'.heap[g]? = some (.cells cs t fr) :=
  (h.block g (row_lt hg) (.inr (fun cs' t' fr' he => by rw [hg] at he; injection he with he; injection he with _ e _; rw [← e]; exact ht))).trans hg

/-- Items of s cells each, one behind the other. -/
theorem flat_length {s : Nat} : ∀ (l : List (List Value)), (∀ x ∈ l, x.length = s) → l.flatten.length = l.length * s := by
  intro l
  induction l with
  | nil => intro _; simp
  | cons x l ih =>
    intro h
    rw [List.flatten_cons, List.length_append, h x (by simp), ih (fun y hy => h y (by simp [hy])), List.length_cons, Nat.succ_mul]; omega
theorem flat_at {s : Nat} : ∀ (l : List (List Value)), (∀ x ∈ l, x.length = s) → ∀ i j, j < s → ∀ x, l[i]? = some x → l.flatten[i * s + j]? = x[j]? := by
  intro l
  induction l with
  | nil => intro _ i j _ x hx; simp at hx
  | cons y l ih =>
    intro h i j hj x hx
    have hy := h y (by simp)
    cases i with
    | zero =>
      have e : y = x := by simpa using hx
      subst e
      rw [List.flatten_cons, List.getElem?_append_left (by omega)]
      congr 1; omega
    | succ i =>
      rw [List.flatten_cons, List.getElem?_append_right (by rw [hy, Nat.succ_mul]; omega), hy]
      have e : (i + 1) * s + j - s = i * s + j := by rw [Nat.succ_mul]; omega
      rw [e]
      exact ih (fun z hz => h z (by simp [hz])) i j hj x (by simpa using hx)
/-- One item turned. -/
theorem flat_set {s : Nat} : ∀ (l : List (List Value)), (∀ x ∈ l, x.length = s) → ∀ i (x : List Value), x.length = s → i < l.length → (l.set i x).flatten = l.flatten.take (i * s) ++ x ++ l.flatten.drop (i * s + s) := by
  intro l
  induction l with
  | nil => intro _ i x _ hi; simp at hi
  | cons y l ih =>
    intro h i x hx hi
    have hy := h y (by simp)
    cases i with
    | zero =>
      rw [List.set_cons_zero, List.flatten_cons, List.flatten_cons, Nat.zero_mul, List.take_zero, Nat.zero_add, List.drop_left' hy, List.nil_append]
    | succ i =>
      rw [List.set_cons_succ, List.flatten_cons, ih (fun z hz => h z (by simp [hz])) i x hx (by simpa using hi), List.flatten_cons]
      have e1 : (i + 1) * s = y.length + i * s := by rw [Nat.succ_mul, hy]; omega
      rw [e1, List.take_length_add_append, Nat.add_assoc, List.drop_length_add_append]
      simp [List.append_assoc]

/-- The disk's own block. -/
def DObj (w : World) (d : Nat) (f l : Value) : Prop := w.heap[d]? = some (.cells #[f, l, .bool false] 65 (0, 0))
def pcells (F : List B8) : List Value := (F.map cellsB).flatten
def lcells (L : List (Nat × B8)) : List Value := (L.map (fun x => Value.int .i64 (x.1 : Int) :: cellsB x.2)).flatten
/-- The disk at the block d holds the firm sectors F and the loose writes L. -/
structure DiskAt (w : World) (B d g : Nat) (v : Value) (F : List B8) (L : List (Nat × B8)) : Prop where
  obj : DObj w d (.slice (some ⟨g, 0, none⟩) 240 240) v
  row : w.heap[g]? = some (.cells (pcells F).toArray 39 (0, 0))
  len : F.length = 240
  page : ∀ p ∈ F, p.length = 128
  own : w.ownsRow B 83 129 v L.length (lcells L)
  small : L.length ≤ 100000
  lpage : ∀ x ∈ L, x.1 < 240 ∧ x.2.length = 128
  low : B ≤ d ∧ B ≤ g
def isDisk (t : TypeId) : Bool := t == 65 || t == 39 || t == 83
end Go.Proofs.YtnlolhlbpdmljaaGreatDoor
namespace Go.Proofs.YtnlolhlbpdmljaaGreatDoor
open Go.ChangeShapes Go.WideShapes Go.RowKit
theorem dcell {w : World} {d : Nat} {f l : Value} (h : DObj w d f l) : w.cell? ⟨d, 0, none⟩ = some f ∧ w.cell? ⟨d, 1, none⟩ = some l ∧ w.cell? ⟨d, 2, none⟩ = some (.bool false) ∧ ∀ j, w.frozen? ⟨d, j, none⟩ = false := by
  refine ⟨cell_of_row w d 0 _ 65 (0, 0) h, cell_of_row w d 1 _ 65 (0, 0) h, cell_of_row w d 2 _ 65 (0, 0) h, fun j => ?_⟩
  unfold DObj at h
  simp [World.frozen?, h]
set_option maxRecDepth 100000 in
set_option maxHeartbeats 1000000 in
theorem dmay_any (w : World) (d g : Nat) (v : Value) (i : Nat) (hi : i < 240) (h : DObj w d (.slice (some ⟨g, 0, none⟩) 240 240) v) : Calls Tryz.prog 26 #[.pointer (some ⟨d, 0, none⟩), .int .i64 (i : Int)] w fun e w' => e = .returned .nilIface ∧ w = w' := by
  obtain ⟨c0, c1, c2, _⟩ := dcell h
  have h1 : decide ((i : Int) < 0) = false := decide_eq_false (by omega)
  have h2 : decide ((240 : Int) ≤ (i : Int)) = false := decide_eq_false (by omega)
  clear h
  go_enter Tryz.func26, Tryz.ntmps26
  go_wp2
  go_ret
  exact ⟨rfl, rfl⟩
set_option maxRecDepth 100000 in
set_option maxHeartbeats 1000000 in
theorem dsize_any (w : World) (d g : Nat) (v : Value) (h : DObj w d (.slice (some ⟨g, 0, none⟩) 240 240) v) : Calls Tryz.prog 32 #[.pointer (some ⟨d, 0, none⟩)] w fun e w' => e = .returned (.int .i64 240) ∧ w = w' := by
  obtain ⟨c0, c1, c2, _⟩ := dcell h
  clear h
  go_enter Tryz.func32, Tryz.ntmps32
  go_wp2
  go_ret
  exact ⟨rfl, rfl⟩

section
variable {ρ : Operand → Value} {o : Oper}
theorem run_nilc {x : Operand} (ho : o.op = .nilCheck x) {a : Addr} (hx : ρ x = .pointer (some a)) (w : World) : (execOp ρ o).run Tryz.prog w = .ok (.value (.pointer (some a))) w := by
  unfold execOp; rw [ho]; simp [hx, go_sem]
theorem run_fld65_0 {x : Operand} (ho : o.op = .fieldAddr 65 x 0) {d : Nat} (hx : ρ x = .pointer (some ⟨d, 0, none⟩)) (w : World) : (execOp ρ o).run Tryz.prog w = .ok (.value (.pointer (some ⟨d, 0, none⟩))) w := by
  unfold execOp; rw [ho]; simp [hx, go_sem]
theorem run_fld65_1 {x : Operand} (ho : o.op = .fieldAddr 65 x 1) {d : Nat} (hx : ρ x = .pointer (some ⟨d, 0, none⟩)) (w : World) : (execOp ρ o).run Tryz.prog w = .ok (.value (.pointer (some ⟨d, 1, none⟩))) w := by
  unfold execOp; rw [ho]; simp [hx, go_sem]
theorem run_load_slice {t e : TypeId} (ht : Tryz.prog.underlying t = some (.slice e)) {x : Operand} (ho : o.op = .load t x) {a : Addr} (hx : ρ x = .pointer (some a)) {v : Value} {w : World} (hc : w.cell? a = some v) : (execOp ρ o).run Tryz.prog w = .ok (.value v) w := by
  unfold execOp
  rw [ho]
  simp [hx, Instr.loadAt, Instr.sureAddr, loadVar, isAgg, Sem.run_bind, run_underlying ht, load, Sem.run, hc]
theorem fold_set (vs : List Value) (o : Nat) : ∀ (k : Nat) (c : Array Value), ((vs.zipIdx k).foldl (fun cs x => cs.setIfInBounds (o + x.2) x.1) c).size = c.size ∧ ∀ j, j < c.size → ((vs.zipIdx k).foldl (fun cs x => cs.setIfInBounds (o + x.2) x.1) c)[j]? = if o + k ≤ j ∧ j < o + k + vs.length then vs[j - (o + k)]? else c[j]? := by
  induction vs with
  | nil => intro k c; exact ⟨rfl, fun j _ => by rw [if_neg (by simp)]; rfl⟩
  | cons v vs ih =>
    intro k c
    obtain ⟨h1, h2⟩ := ih (k + 1) (c.setIfInBounds (o + k) v)
    rw [List.zipIdx_cons, List.foldl_cons]
    refine ⟨by rw [h1]; simp, fun j hj => ?_⟩
    rw [h2 j (by simpa using hj), Array.getElem?_setIfInBounds]
    by_cases e : j = o + k
    · subst e
      rw [if_neg (by omega), if_pos rfl, if_pos hj, if_pos (by simp), Nat.sub_self]; rfl
    · by_cases e2 : o + (k + 1) ≤ j ∧ j < o + (k + 1) + vs.length
      · rw [if_pos e2, if_pos (by simp; omega)]
        have : j - (o + k) = (j - (o + (k + 1))) + 1 := by omega
        rw [this, List.getElem?_cons_succ]
      · rw [if_neg e2, if_neg (by omega), if_neg (by simp; omega)]
theorem zsize83 : Tryz.zeroCells83.size = 129 := by kernel_rfl
theorem build_cells (i : Int) (p : B8) (hp : p.length = 128) : Array.foldl (fun cs (x : Value × Nat) => cs.setIfInBounds (1 + x.snd) x.fst) (Tryz.zeroCells83.setIfInBounds 0 (.int .i64 i)) (pv p).zipIdx 0 (pv p).size = (.int .i64 i :: cellsB p).toArray := by
  have e : (pv p).zipIdx = ((cellsB p).zipIdx 0).toArray := by unfold pv; simp
  rw [e, List.foldl_toArray' (h := by simp [pv_size, cellsB_length])]
  obtain ⟨h1, h2⟩ := fold_set (cellsB p) 1 0 (Tryz.zeroCells83.setIfInBounds 0 (.int .i64 i))
  rw [Array.size_setIfInBounds, zsize83] at h1
  apply Array.ext_getElem?
  intro j
  by_cases hj : j < 129
  · rw [h2 j (by rw [Array.size_setIfInBounds, zsize83]; exact hj), cellsB_length, hp]
    cases j with
    | zero =>
      rw [if_neg (by omega), Array.getElem?_setIfInBounds, if_pos rfl, if_pos (by rw [zsize83]; omega)]; rfl
    | succ j =>
      rw [if_pos (by omega)]
      simp
  · rw [Array.getElem?_eq_none (by omega), Array.getElem?_eq_none (by simp [cellsB_length, hp]; omega)]
theorem run_build83 {x y : Operand} (ho : o.op = .build 83 #[(0, x), (1, y)]) {i : Int} {p : B8} (hx : ρ x = .int .i64 i) (hy : ρ y = .agg (pv p)) (hp : p.length = 128) (w : World) : (execOp ρ o).run Tryz.prog w = .ok (.value (.agg (.int .i64 i :: cellsB p).toArray)) w := by
  unfold execOp
  rw [ho]
  have hs : (pv p).size = 128 := by rw [pv_size, hp]
  have hb := build_cells i p hp
  rw [hs] at hb
  simp [go_sem, hx, hy, hs, hb]
theorem info83 : (Tryz.prog.info? 83).map (fun i => (i.size, i.bytes)) = some (129, 136) := by kernel_rfl
theorem zero83 : ((Tryz.prog.info? 83).bind (·.zero)).isSome = true := by kernel_rfl
theorem run_row83 {x : Operand} (ho : o.op = .buildSlice 63 1 #[(0, x)]) {cs : List Value} (hx : ρ x = .agg cs.toArray) (hl : cs.length = 129) (w : World) : (execOp ρ o).run Tryz.prog w = .ok (.value (.slice (some ⟨w.heap.size, 0, none⟩) 1 1)) (w.alloc (.cells cs.toArray 83)) := by
  obtain ⟨ie, hie, hsb⟩ := Option.map_eq_some_iff.1 info83
  have hs : ie.size = 129 := congrArg Prod.fst hsb
  obtain ⟨z, hz⟩ := Option.isSome_iff_exists.1 zero83
  rw [hie] at hz
  have hz' : ie.zero = some z := hz
  have hr := run_buildSlice (P := Tryz.prog) w 63 83 1 #[(0, .agg cs.toArray)] cs.toArray ie z Tryz.underlying63 hie hz' (by rw [hs]; omega) (by rw [hs]; omega) (by
    obtain ⟨c0, hc0⟩ : ∃ c0, c0 = (Array.range (1 * ie.size)).map (z.cells[· % z.cells.size]!) := ⟨_, rfl⟩
    rw [← hc0]
    have hcs : c0.size = 129 := by rw [hc0]; simp [hs]
    obtain ⟨h1, h2⟩ := fold_set cs 0 0 c0
    have hf : (cs.zipIdx 0).foldl (fun cs x => cs.setIfInBounds (0 + x.2) x.1) c0 = cs.toArray := by
      apply Array.ext_getElem?
      intro j
      by_cases hj : j < 129
      · rw [h2 j (by omega), if_pos (by omega)]; simp
      · rw [Array.getElem?_eq_none (by omega), Array.getElem?_eq_none (by simp; omega)]
    have e : (cs.toArray).zipIdx = (cs.zipIdx 0).toArray := by simp
    simp only [Instr.fill, hs, Value.cells]
    rw [if_neg (by simp [hl, hcs])]
    rw [e, List.foldl_toArray' (h := by simp)]
    rw [Nat.zero_mul]
    exact congrArg some hf)
  unfold execOp
  rw [ho]
  simp only [List.map_toArray, List.map_cons, List.map_nil, hx, Sem.run_bind, hr, Result.andThen_ok, Sem.run_pure]
end
end Go.Proofs.YtnlolhlbpdmljaaGreatDoor
namespace Go.Proofs.YtnlolhlbpdmljaaGreatDoor
open Go.ChangeShapes Go.WideShapes Go.RowKit

theorem DObj.at {w w' : World} {d : Nat} {f l : Value} (h : DObj w d f l) (e : w'.heap[d]? = w.heap[d]?) : DObj w' d f l := e.trans h
theorem DiskAt.below {w w' : World} {B d g : Nat} {v : Value} {F : List B8} {L : List (Nat × B8)} (h : DiskAt w B d g v F L) (b : Below w.heap.size w w') : DiskAt w' B d g v F L :=
  ⟨h.obj.at (b.block d (row_lt h.obj)), (b.block g (row_lt h.row)).trans h.row, h.len, h.page, own_row h.own (fun k hk => b.block k (own_lt h.own hk).1), h.small, h.lpage, h.low⟩
/-- One cell turned. -/
theorem heap_setCell_row {w : World} {d j : Nat} {cs : Array Value} {t : TypeId} (h : w.heap[d]? = some (.cells cs t (0, 0))) (u : Value) : (w.setCell ⟨d, j, none⟩ u).heap[d]? = some (.cells (cs.setIfInBounds j u) t (0, 0)) := by
  simp [World.setCell, Array.getElem?_modify, h]
theorem kt_setCell {w : World} {B d j : Nat} {T : TypeId → Bool} {cs : Array Value} {t : TypeId} (h : w.heap[d]? = some (.cells cs t (0, 0))) (hB : B ≤ d) (hT : T t = true) (u : Value) : KT B T w (w.setCell ⟨d, j, none⟩ u) :=
  KT.one h hB hT rfl rfl rfl (by simp [World.setCell]) (fun k _ hk => Below.heap_setCell _ _ _ _ hk)
theorem KT.grown {B e s n : Nat} {T : TypeId → Bool} {w w' : World} {v : Value} {xs : List Value} (ho : w.ownsRow B e s v n xs) (hT : T e = true) (hg : w.grownBy w' v.ownBlock) : KT B T w w' :=
  ⟨hg.os, hg.tape, hg.output, hg.size, fun k hk hu => hg.block k hk (fun h => by
    rcases ho.2 with ⟨rfl, _⟩ | ⟨g, cap, cur, rfl, hB, hh, _⟩
    · cases h
    · have e1 : g = k := by injection h with h; exact h.symm
      subst e1
      rcases hu with h1 | h1
      · omega
      · have := h1 _ _ _ hh; rw [hT] at this; cases this)⟩
theorem KT.drew {B : Nat} {T : TypeId → Bool} {w w' : World} (h : KT B T w w') : KT B T w w'.drew := ⟨h.os, h.tape, h.output, h.size, h.block⟩
theorem run_store_slc {ρ : Operand → Value} {o : Oper} {t : TypeId} (hs : (Tryz.prog.info? t).map (·.size) = some 1) {x y : Operand} (ho : o.op = .store t x y) {d j : Nat} {A : Option Addr} {n c : Nat} {cs : Array Value} {t0 : TypeId} {w : World}
    (hx : ρ x = .pointer (some ⟨d, j, none⟩)) (hy : ρ y = .slice A n c) (h : w.heap[d]? = some (.cells cs t0 (0, 0))) (hj : j < cs.size) : (execOp ρ o).run Tryz.prog w = .ok .skip (w.setCell ⟨d, j, none⟩ (.slice A n c)) := by
  have hf := frozen_of_row w d j cs t0 h
  have hc := cell_of_row w d j cs t0 (0, 0) h
  rw [Array.getElem?_eq_getElem hj] at hc
  unfold execOp
  rw [ho]
  have h2 := run_storeCells_cells (P := Tryz.prog) d j [.slice A n c] 0 w (by intro i hi; have : i = 0 := by simpa using hi
                                                                              subst this; simp [hc]) (by intro i hi; have : i = 0 := by simpa using hi
                                                                                                         subst this; exact hf) (by simp [Value.oneCell'])
  have h3 : (storeCells ⟨d, j, none⟩ [.slice A n c]).run Tryz.prog w = .ok () (w.setCell ⟨d, j, none⟩ (.slice A n c)) := h2
  simp [hx, hy, Instr.storeAt, Instr.sureAddr, storeVar, Value.cells, Sem.run_bind, run_size hs, h3]

theorem size63 : (Tryz.prog.info? 63).map (·.size) = some 1 := by kernel_rfl
theorem far_of {w : World} {B e s n : Nat} {v : Value} {xs : List Value} (h : w.ownsRow B e s v n xs) {k : Nat} {cs : Array Value} {t : TypeId} (hk : w.heap[k]? = some (.cells cs t (0, 0))) (hne : e ≠ t) : some k ≠ v.ownBlock := by
  intro e1
  rcases h.2 with ⟨rfl, _⟩ | ⟨g, cap, cur, rfl, _, h2, _⟩
  · cases e1
  · have e2 : k = g := by injection e1
    subst e2
    rw [h2] at hk
    injection hk with hk
    injection hk with _ ht _
    exact hne ht
set_option maxRecDepth 100000 in
set_option maxHeartbeats 1000000 in
theorem dwrite_any (w : World) (B d g : Nat) (v : Value) (F : List B8) (L : List (Nat × B8)) (i : Nat) (p : B8) (hi : i < 240) (hp : p.length = 128) (hL : L.length < 100000) (H : DiskAt w B d g v F L) :
    Calls Tryz.prog 70 #[.pointer (some ⟨d, 0, none⟩), .int .i64 (i : Int), .agg (pv p)] w fun e w' => e = .returned .nilIface ∧ (∃ v', DiskAt w' B d g v' F (L ++ [(i, p)])) ∧ KT B isDisk w w' := by
  obtain ⟨Q, hQ⟩ : ∃ Q, Q = w.heap.size := ⟨_, rfl⟩
  obtain ⟨W1, hW1⟩ : ∃ W, W = w.alloc (.cells (pv p) 39) := ⟨_, rfl⟩
  have b1 : Below w.heap.size w W1 := by rw [hW1]; exact (Below.refl _ _).alloc (Nat.le_refl _) _
  have H1 := Lib.hid (H.below b1)
  have Q1 := Lib.hid (show W1.heap[Q]? = some (.cells (pv p) 39 (0, 0)) by rw [hW1, hQ]; exact heap_alloc_new _ _)
  have K1 := Lib.hid (KT.of_below b1 B isDisk)
  have HQ := Lib.hid hQ
  have HW1 := Lib.hid hW1
  have HP := Lib.hid hp
  have HL := Lib.hid hL
  have MAY := Lib.hid (dmay_any W1 d g v i hi H1.out.obj)
  obtain ⟨i0, hi0, hsb⟩ := Option.map_eq_some_iff.1 info83
  obtain ⟨z, hz⟩ := Option.isSome_iff_exists.1 zero83
  rw [hi0] at hz
  have ZZ := Lib.hid (show i0.zero = some z from hz)
  have ZS := Lib.hid (show z.cells.size = 129 by
    have : (Tryz.prog.info? 83).map (fun i => (i.zero.map (·.cells.size))) = some (some 129) := by kernel_rfl
    rw [hi0] at this
    simpa [ZZ.out] using this)
  have IS := Lib.hid (congrArg Prod.fst hsb)
  have IB := Lib.hid (congrArg Prod.snd hsb)
  have I0 := Lib.hid hi0
  clear hQ hW1 b1 H hz hsb hi0
  go_enter Tryz.func70, Tryz.ntmps70
  go_wp2_with fail
  rw [← HW1.out, ← HQ.out]
  refine MAY.out.mono ?_
  rintro e w1 ⟨rfl, rfl⟩
  go_upto_region 4 with fail
  obtain ⟨w4, hw4⟩ : ∃ u, u = W1.drew := ⟨_, rfl⟩
  have HD4 := Lib.hid hw4.symm
  have Q4 := Lib.hid (show w4.heap[Q]? = some (.cells (pv p) 39 (0, 0)) by rw [hw4]; exact Q1.out)
  have H4 := Lib.hid (show DiskAt w4 B d g v F L by rw [hw4]; exact H1.out.below (Below.refl _ _).drew)
  have K4 := Lib.hid (show KT B isDisk w w4 by rw [hw4]; exact K1.out.drew)
  clear hw4 Q1 H1 K1 MAY
  refine g_region (fun w' => w'.heap[Q]? = some (.cells (pv p) 39 (0, 0))) 13 rfl (by kernel_rfl) ?_
  rw [HD4.out]
  refine g_take 0 rfl (some 14) rfl (by kernel_rfl) (by kernel_rfl) (by kernel_rfl) (fun _ _ _ h => h) rfl (fun w' hw' => run_move_is (.tmp 0) (.pointer (some ⟨d, 0, none⟩)) rfl rfl w') Q4.out ?_
  simp only [Act.put, List.setIfInBounds_toArray, List.set_cons_succ, List.set_cons_zero]
  refine g_take 1 rfl (some 15) rfl (by kernel_rfl) (by kernel_rfl) (by kernel_rfl) (fun _ _ _ h => h) rfl (fun w' hw' => run_move_is (.tmp 0) (.pointer (some ⟨d, 0, none⟩)) rfl rfl w') Q4.out ?_
  simp only [Act.put, List.setIfInBounds_toArray, List.set_cons_succ, List.set_cons_zero]
  refine g_take 2 rfl (some 16) rfl (by kernel_rfl) (by kernel_rfl) (by kernel_rfl) (fun _ _ _ h => h) rfl (fun w' hw' => run_nilc (x := .tmp 15) (a := ⟨d, 0, none⟩) rfl rfl w') Q4.out ?_
  simp only [Act.put, List.setIfInBounds_toArray, List.set_cons_succ, List.set_cons_zero]
  refine g_take 3 rfl (some 17) rfl (by kernel_rfl) (by kernel_rfl) (by kernel_rfl) (fun _ _ _ h => h) rfl (fun w' hw' => run_fld65_1 (x := .tmp 16) (d := d) rfl rfl w') Q4.out ?_
  simp only [Act.put, List.setIfInBounds_toArray, List.set_cons_succ, List.set_cons_zero]
  refine g_take 5 rfl (some 19) rfl (by kernel_rfl) (by kernel_rfl) (by kernel_rfl) (fun _ _ _ h => h) rfl (fun w' hw' => run_move_is (.tmp 1) (.int .i64 (i : Int)) rfl rfl w') Q4.out ?_
  simp only [Act.put, List.setIfInBounds_toArray, List.set_cons_succ, List.set_cons_zero]
  refine g_take 6 rfl (some 20) rfl (by kernel_rfl) (by kernel_rfl) (by kernel_rfl) (fun _ _ _ h => h) rfl (fun w' hw' => run_load_page (x := .tmp 5) rfl rfl hw' HP.out) Q4.out ?_
  simp only [Act.put, List.setIfInBounds_toArray, List.set_cons_succ, List.set_cons_zero]
  refine g_take 7 rfl (some 21) rfl (by kernel_rfl) (by kernel_rfl) (by kernel_rfl) (fun _ _ _ h => h) rfl (fun w' hw' => run_build83 (x := .tmp 19) (y := .tmp 20) rfl rfl rfl HP.out w') Q4.out ?_
  simp only [Act.put, List.setIfInBounds_toArray, List.set_cons_succ, List.set_cons_zero]
  have C1 := Lib.hid (show ∀ u, DiskAt u B d g v F L → u.cell? ⟨d, 1, none⟩ = some v from fun u hu => (dcell hu.obj).2.1)
  obtain ⟨w5, hw5⟩ : ∃ u, u = w4.alloc (.cells (Value.int .i64 (i : Int) :: cellsB p).toArray 83) := ⟨_, rfl⟩
  obtain ⟨G, hG⟩ : ∃ G, G = w4.heap.size := ⟨_, rfl⟩
  have b5 : Below w4.heap.size w4 w5 := by rw [hw5]; exact (Below.refl _ _).alloc (Nat.le_refl _) _
  have H5 := Lib.hid (H4.out.below b5)
  have Q5 := Lib.hid ((b5.block Q (row_lt Q4.out)).trans Q4.out)
  have K5 := Lib.hid (K4.out.trans (KT.of_below b5 B isDisk))
  have X5 := Lib.hid (show w5.heap[G]? = some (.cells (Value.int .i64 (i : Int) :: cellsB p).toArray 83 (0, 0)) by rw [hw5, hG]; exact heap_alloc_new _ _)
  have HW5 := Lib.hid hw5.symm
  have HG := Lib.hid hG.symm
  have LEN := Lib.hid (show (Value.int .i64 (i : Int) :: cellsB p).length = 129 by rw [List.length_cons, cellsB_length, HP.out])
  clear hw5 hG b5
  have R8 := Lib.hid (fun (ρ : Operand → Value) (o : Oper) (ho : o.op = .buildSlice 63 1 #[(0, .tmp 21)]) (hx : ρ (.tmp 21) = .agg (Value.int .i64 (i : Int) :: cellsB p).toArray) => by
    have h := run_row83 (ρ := ρ) (o := o) ho hx LEN.out w4
    rw [HW5.out, HG.out] at h
    exact h)
  refine g_two 4 8 (by kernel_rfl) ?_ ?_
  skip
  refine g_val rfl (some 18) rfl rfl (run_load_slice Tryz.underlying63 (x := .tmp 17) rfl rfl (C1.out _ H4.out)) Q4.out ?_
  simp only [Act.put, List.setIfInBounds_toArray, List.set_cons_succ, List.set_cons_zero]
  refine g_one 8 (by kernel_rfl) ?_
  refine g_val rfl (some 22) rfl rfl (R8.out _ _ rfl rfl) Q5.out ?_
  simp only [Act.put, List.setIfInBounds_toArray, List.set_cons_succ, List.set_cons_zero]
  rotate_left
  refine g_val rfl (some 22) rfl rfl (R8.out _ _ rfl rfl) Q5.out ?_
  simp only [Act.put, List.setIfInBounds_toArray, List.set_cons_succ, List.set_cons_zero]
  refine g_one 4 (by kernel_rfl) ?_
  refine g_val rfl (some 18) rfl rfl (run_load_slice Tryz.underlying63 (x := .tmp 17) rfl rfl (C1.out _ H5.out)) Q5.out ?_
  simp only [Act.put, List.setIfInBounds_toArray, List.set_cons_succ, List.set_cons_zero]
  all_goals
    refine g_one 9 (by kernel_rfl) ?_
    refine g_append rfl (some 23) rfl rfl (.tmp 18) (.tmp 22) _ rfl B 83 i0 z 129 136 Tryz.underlying63 I0.out ZZ.out IS.out IB.out ZS.out (by omega) v L.length (lcells L) rfl H5.out.own _ (some ⟨G, 0, none⟩) 1 1 (Value.int .i64 (i : Int) :: cellsB p) rfl (reads_news X5.out LEN.out) (fun u hu => ?_) (by unfold maxLen; have := HL.out; omega) (by have := HL.out; omega) (Nat.le_trans H5.out.low.1 (Nat.le_of_lt (row_lt H5.out.obj))) ?_
    · rcases List.mem_cons.1 hu with rfl | hu
      · rfl
      · exact cellsB_one p u hu
    intro v' w6 hown6 hgr6 hat6
    have Q6 := Lib.hid (show w6.heap[Q]? = some (.cells (pv p) 39 (0, 0)) from (hgr6.block Q (row_lt Q5.out) (far_of H5.out.own Q5.out (by decide))).trans Q5.out)
    have D6 := Lib.hid (show DObj w6 d (.slice (some ⟨g, 0, none⟩) 240 240) v from (hgr6.block d (row_lt H5.out.obj) (far_of H5.out.own H5.out.obj (by decide))).trans H5.out.obj)
    have G6 := Lib.hid (show w6.heap[g]? = some (.cells (pcells F).toArray 39 (0, 0)) from (hgr6.block g (row_lt H5.out.row) (far_of H5.out.own H5.out.row (by decide))).trans H5.out.row)
    have K6 := Lib.hid (K5.out.trans (KT.grown H5.out.own (by decide) hgr6))
    have O6 := Lib.hid hown6
    clear hown6 hgr6 hat6
    refine ⟨Q6.out, ?_⟩
    simp only [Act.put, List.setIfInBounds_toArray, List.set_cons_succ, List.set_cons_zero]
    refine g_take 10 rfl (some 24) rfl (by kernel_rfl) (by kernel_rfl) (by kernel_rfl) (fun _ _ _ h => h) rfl (fun w' hw' => run_nilc (x := .tmp 14) (a := ⟨d, 0, none⟩) rfl rfl w') Q6.out ?_
    simp only [Act.put, List.setIfInBounds_toArray, List.set_cons_succ, List.set_cons_zero]
    refine g_take 11 rfl (some 25) rfl (by kernel_rfl) (by kernel_rfl) (by kernel_rfl) (fun _ _ _ h => h) rfl (fun w' hw' => run_fld65_1 (x := .tmp 24) (d := d) rfl rfl w') Q6.out ?_
    simp only [Act.put, List.setIfInBounds_toArray, List.set_cons_succ, List.set_cons_zero]
    obtain ⟨A', n', c', rfl⟩ : ∃ A n c, v' = .slice A n c := by obtain ⟨A, c, h⟩ := own_slice O6.out; exact ⟨A, _, c, h⟩
    refine g_one 12 (by kernel_rfl) ?_
    refine g_skp rfl rfl rfl (run_store_slc size63 (x := .tmp 25) (y := .tmp 23) (d := d) (j := 1) rfl rfl rfl D6.out (by simp)) ((Below.heap_setCell _ _ _ _ (fun e => by have h1 := Q6.out; rw [e] at h1; have h2 := D6.out; unfold DObj at h2; rw [h1] at h2; injection h2 with h2; injection h2 with _ h2; cases h2)).trans Q6.out) ?_
    refine g_done (by kernel_rfl) ?_
    go_wp2_with fail
    go_ret
    refine ⟨rfl, ⟨.slice A' n' c', ?_⟩, K6.out.trans (kt_setCell D6.out H4.out.low.1 (by decide) _)⟩
    have hdg : g ≠ d := by
      intro e1; have h1 := G6.out; rw [e1] at h1; have h2 := D6.out; unfold DObj at h2; rw [h1] at h2; injection h2 with h2; injection h2 with _ h2; cases h2
    refine ⟨?_, (Below.heap_setCell _ _ _ _ hdg).trans G6.out, H5.out.len, H5.out.page, ?_, ?_, ?_, H5.out.low⟩
    · exact heap_setCell_row D6.out _
    · have e1 : lcells (L ++ [(i, p)]) = lcells L ++ (Value.int .i64 (i : Int) :: cellsB p) := by unfold lcells; simp
      rw [e1, List.length_append]
      exact own_row O6.out (fun k hk => Below.heap_setCell _ _ _ _ (fun e2 => by rw [e2] at hk; exact far_of O6.out D6.out (by decide) hk.symm))
    · rw [List.length_append]; have := HL.out; simp; omega
    · intro x hx
      rcases List.mem_append.1 hx with hx | hx
      · exact H5.out.lpage x hx
      · rw [List.mem_singleton] at hx; subst hx; exact ⟨hi, HP.out⟩
end Go.Proofs.YtnlolhlbpdmljaaGreatDoor
