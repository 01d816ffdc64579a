/-
  The two functions inside node.parts: bytes taken off the data, numbers out of them. node.parts of a node that was laid.
  Conditions: none.
-/
import Derived.Test.YtnlolhlbpdmljaaGreatDoorNodD
namespace Go.Proofs.YtnlolhlbpdmljaaGreatDoor
open Go.ChangeShapes Go.WideShapes Go.RowKit
section
variable {ρ : Operand → Value} {o : Oper}
theorem run_slc_to {x y : Operand} (ho : o.op = .slice 9 x none (some y) none) {l : B8} {n : Nat} (hx : ρ x = .string (strB l)) (hy : ρ y = .int .i64 (n : Int)) (hn : n ≤ l.length) (w : World) : (execOp ρ o).run Tryz.prog w = .ok (.value (.string (strB (l.take n)))) w := by
  have hl' : n ≤ (strB l).size := by rw [strB_size]; exact hn
  have he : (strB l).extract 0 n = strB (l.take n) := by
    unfold strB
    rw [ByteArray.ext_iff]
    simp
  unfold execOp; rw [ho]; simp [hx, hy, go_sem, he]
  intro h; exact absurd h (by omega)
theorem run_slc_from {x y : Operand} (ho : o.op = .slice 9 x (some y) none none) {l : B8} {n : Nat} (hx : ρ x = .string (strB l)) (hy : ρ y = .int .i64 (n : Int)) (hn : n ≤ l.length) (w : World) : (execOp ρ o).run Tryz.prog w = .ok (.value (.string (strB (l.drop n)))) w := by
  have hl' : n ≤ (strB l).size := by rw [strB_size]; exact hn
  have he : (strB l).extract n (strB l).size = strB (l.drop n) := by
    rw [strB_size]
    unfold strB
    rw [ByteArray.ext_iff]
    simp
    exact List.take_of_length_le (by simp)
  unfold execOp; rw [ho]; simp [hx, hy, go_sem, he]
  intro h; exact absurd h (by omega)
end
abbrev pD (b : Nat) : Value := .pointer (some ⟨b, 0, none⟩)
abbrev takeF (Db Ob : Nat) : Value := .func (.func 117) #[] #[pD Db, pD Ob]
theorem cell_one {w : World} {b : Nat} {v : Value} {t : TypeId} (h : w.heap[b]? = some (.cells #[v] t (0, 0))) : w.cell? ⟨b, 0, none⟩ = some v ∧ w.frozen? ⟨b, 0, none⟩ = false := ⟨cell_of_row w b 0 _ t (0, 0) h, frozen_of_row w b 0 _ t h⟩
set_option maxHeartbeats 400000 in
theorem take_any (w : World) (n Db Ob : Nat) (l : B8) (_hl : l.length ≤ 1000) (hn : n ≤ l.length) (hd : w.heap[Db]? = some (.cells #[.string (strB l)] 9 (0, 0))) :
    Calls Tryz.prog 117 #[.int .i64 (n : Int), pD Db, pD Ob] w fun e w' => e = .returned (.string (strB (l.take n))) ∧ w' = w.setCell ⟨Db, 0, none⟩ (.string (strB (l.drop n))) := by
  obtain ⟨c0, f0⟩ := cell_one hd
  have hs : (strB l).size = l.length := strB_size l
  have hgt : ¬ (l.length : Int) < (n : Int) := by omega
  have HN := Lib.hid hn
  clear hd
  go_enter Tryz.func117, Tryz.ntmps117
  go_wp2_with (first | (refine l_is (.slice 9 (.tmp 10) none (some (.tmp 11)) none) rfl rfl (run_slc_to (x := .tmp 10) (y := .tmp 11) rfl rfl rfl HN.out _) ?_) | (refine l_is (.slice 9 (.tmp 13) (some (.tmp 14)) none none) rfl rfl (run_slc_from (x := .tmp 13) (y := .tmp 14) rfl rfl rfl HN.out _) ?_))
  go_ret
  exact ⟨rfl, rfl⟩
set_option maxHeartbeats 400000 in
theorem number_any (w : World) (n Db Ob Fb : Nat) (l : B8) (hl : l.length ≤ 1000) (h1 : 1 ≤ n) (h4 : n ≤ 4) (hn : n ≤ l.length) (hd : w.heap[Db]? = some (.cells #[.string (strB l)] 9 (0, 0))) (hf : w.heap[Fb]? = some (.cells #[takeF Db Ob] 198 (0, 0))) :
    Calls Tryz.prog 118 #[.int .i64 (n : Int), pD Fb] w fun e w' => e = .returned (.int .i64 (unbe (l.take n) : Int)) ∧ w' = w.setCell ⟨Db, 0, none⟩ (.string (strB (l.drop n))) := by
  obtain ⟨c0, f0⟩ := cell_one hf
  have T := Lib.hid (take_any w n Db Ob l hl hn hd)
  have G := Lib.hid (fun w => get_any (l.take n) n h1 h4 (by rw [List.length_take]; omega) (by rw [List.length_take]; omega) w)
  have HE := Lib.hid (show (l.take n).take n = l.take n by rw [List.take_take, Nat.min_self])
  rw [HE.out] at G
  clear hd hf
  go_enter Tryz.func118, Tryz.ntmps118
  go_wp2_with (first | (go_at_call 117; refine T.out.mono ?_; rintro e w1 ⟨rfl, rfl⟩) | (go_at_call 91; refine (G.out _).mono ?_; rintro e w2 ⟨rfl, rfl⟩))
  go_ret
  exact ⟨rfl, rfl⟩
end Go.Proofs.YtnlolhlbpdmljaaGreatDoor
namespace Go.Proofs.YtnlolhlbpdmljaaGreatDoor
open Go.ChangeShapes Go.WideShapes Go.RowKit
abbrev nilS : Value := .slice none 0 0
abbrev numF (Fb : Nat) : Value := .func (.func 118) #[] #[pD Fb]
structure Part (w wr : World) (Db Ob Fb R : Nat) (rest : B8) : Prop where
  data : wr.heap[Db]? = some (.cells #[.string (strB rest)] 9 (0, 0))
  ok : wr.heap[Ob]? = some (.cells #[.bool true] 4 (0, 0))
  fn : wr.heap[Fb]? = some (.cells #[takeF Db Ob] 198 (0, 0))
  res : wr.heap[R]? = some (.cells #[nilS, nilS, nilS] 87 (0, 0))
  ge : w.heap.size ≤ Db ∧ w.heap.size ≤ R ∧ R < wr.heap.size
  low : Below w.heap.size w wr
theorem cells_ne {w : World} {a b : Nat} {cs cs' : Array Value} {t t' : TypeId} (h : w.heap[a]? = some (.cells cs t (0, 0))) (h' : w.heap[b]? = some (.cells cs' t' (0, 0))) (hne : t ≠ t') : a ≠ b := by
  intro e; subst e; rw [h] at h'; injection h' with h'; injection h' with _ h' _; exact hne h'
theorem Part.took {w wr : World} {Db Ob Fb R : Nat} {rest : B8} (h : Part w wr Db Ob Fb R rest) (rest' : B8) : Part w (wr.setCell ⟨Db, 0, none⟩ (.string (strB rest'))) Db Ob Fb R rest' :=
  ⟨by rw [heap_setCell_row h.data]; rfl, (Below.heap_setCell _ _ _ _ (cells_ne h.ok h.data (by decide))).trans h.ok, (Below.heap_setCell _ _ _ _ (cells_ne h.fn h.data (by decide))).trans h.fn, (Below.heap_setCell _ _ _ _ (cells_ne h.res h.data (by decide))).trans h.res, ⟨h.ge.1, h.ge.2.1, by simpa [World.setCell] using h.ge.2.2⟩, h.low.setCell (p := ⟨Db, 0, none⟩) h.ge.1 _⟩
theorem Part.kept {w wr w' : World} {Db Ob Fb R : Nat} {rest : B8} {S : Nat → Prop} (h : Part w wr Db Ob Fb R rest) (k : Kept S wr w') (hS : ∀ x, S x → w.heap.size ≤ x ∧ x ≠ Db ∧ x ≠ Ob ∧ x ≠ Fb ∧ x ≠ R) : Part w w' Db Ob Fb R rest :=
  ⟨(k.block Db (row_lt h.data) (fun e => (hS _ e).2.1 rfl)).trans h.data, (k.block Ob (row_lt h.ok) (fun e => (hS _ e).2.2.1 rfl)).trans h.ok, (k.block Fb (row_lt h.fn) (fun e => (hS _ e).2.2.2.1 rfl)).trans h.fn, (k.block R (row_lt h.res) (fun e => (hS _ e).2.2.2.2 rfl)).trans h.res, ⟨h.ge.1, h.ge.2.1, Nat.lt_of_lt_of_le h.ge.2.2 k.size⟩, h.low.trans (kept_below k (h.low.size) (fun x hx => (hS x hx).1))⟩
theorem Part.below {w wr w' : World} {Db Ob Fb R : Nat} {rest : B8} (h : Part w wr Db Ob Fb R rest) (k : Below wr.heap.size wr w') : Part w w' Db Ob Fb R rest := h.kept (Kept.of_below k (fun _ => False)) (fun _ e => e.elim)
section
variable {ρ : Operand → Value} {o : Oper}
theorem run_callv1 {f : FuncId} {x y : Operand} {ts : Array TypeId} (ho : o.op = .call { callee := .value x, args := #[y], argTypes := ts }) {cb : Array Value} (hx : ρ x = .func (.func f) #[] cb)
    (hcf : ∀ args w, (callFunc f args).run Tryz.prog w = .ok (.enter f args) w) {u : Value} (hy : ρ y = u) {args : Array Value} (ha : #[u] ++ cb = args) (w : World) : (execOp ρ o).run Tryz.prog w = .ok (.enter f args) w := by
  subst ha
  unfold execOp
  rw [ho]
  simp [go_sem, hx, hy, hcf]
theorem run_bs33 {x : Operand} (ho : o.op = .buildSlice 33 1 #[(0, x)]) {k : Int} (hx : ρ x = .int .i64 k) (w : World) : (execOp ρ o).run Tryz.prog w = .ok (.value (.slice (some ⟨w.heap.size, 0, none⟩) 1 1)) (w.alloc (.cells #[.int .i64 k] 3)) := by
  unfold execOp
  rw [ho]
  simp [go_sem, hx]
theorem run_bs85 {x : Operand} (ho : o.op = .buildSlice 85 1 #[(0, x)]) {b : ByteArray} (hx : ρ x = .string b) (w : World) : (execOp ρ o).run Tryz.prog w = .ok (.value (.slice (some ⟨w.heap.size, 0, none⟩) 1 1)) (w.alloc (.cells #[.string b] 9)) := by
  unfold execOp
  rw [ho]
  simp [go_sem, hx]
theorem run_load_fn {x : Operand} (ho : o.op = .load 198 x) {b : Nat} (hx : ρ x = pD b) {v : Value} {w : World} (h : w.heap[b]? = some (.cells #[v] 198 (0, 0))) : (execOp ρ o).run Tryz.prog w = .ok (.value v) w := by
  have hc := (cell_one h).1
  unfold execOp
  rw [ho]
  simp [hx, go_sem, load, Sem.run, hc]
end
theorem info3 : (Tryz.prog.info? 3).map (fun i => (i.zero, i.size, i.bytes)) = some (some (.int .i64 0), 1, 8) := by kernel_rfl
theorem info9 : (Tryz.prog.info? 9).map (fun i => (i.zero, i.size, i.bytes)) = some (some (.string { data := #[] }), 1, 16) := by kernel_rfl
theorem size33 : (Tryz.prog.info? 33).map (·.size) = some 1 := by kernel_rfl
theorem size85 : (Tryz.prog.info? 85).map (·.size) = some 1 := by kernel_rfl
theorem size198 : (Tryz.prog.info? 198).map (·.size) = some 1 := by kernel_rfl
end Go.Proofs.YtnlolhlbpdmljaaGreatDoor
