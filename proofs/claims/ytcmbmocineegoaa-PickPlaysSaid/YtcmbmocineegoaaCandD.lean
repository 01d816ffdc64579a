/-
  What slices.DeleteFunc does on a row of the call's own.
  Conditions: none.
-/
import Derived.Test.YtcmbmocineegoaaCandW
import Derived.Laws.IdiomCopy
namespace Go.Proofs.Ytcmbmocineegoaa
open Go.ChangeShapes Go.WideShapes Go.ChangeAt Go.RowKit

theorem filter_next {l : List C3} {j : Nat} (h : j < l.length) : (l.take (j + 1)).filter canC = (l.take j).filter canC ++ (if canC (at3 l j) = true then [at3 l j] else []) := by
  have e : l.take (j + 1) = l.take j ++ [at3 l j] := by rw [List.take_add_one, at3_some h]; rfl
  rw [e, List.filter_append]
  by_cases hc : canC (at3 l j) = true
  · simp [hc]
  · simp [hc]
/-- The state of the loop: the first i are those that can among the first j; behind j nothing has turned. -/
def Del (l : List C3) (i j : Nat) (s : List C3) : Prop := i < j ∧ j ≤ l.length ∧ s.length = l.length ∧ s.take i = (l.take j).filter canC ∧ s.drop j = l.drop j
theorem Del.at {l s : List C3} {i j : Nat} (h : Del l i j s) (hj : j < l.length) : at3 s j = at3 l j := by
  obtain ⟨_, _, hs, _, hd⟩ := h
  have := congrArg (fun t => t[0]?) hd
  simp only [List.getElem?_drop, Nat.add_zero] at this
  rw [at3_some (by omega), at3_some hj] at this
  exact Option.some.inj this
theorem drop_next {s l : List C3} {j : Nat} (h : s.drop j = l.drop j) : s.drop (j + 1) = l.drop (j + 1) := by
  have := congrArg (List.drop 1) h
  rwa [List.drop_drop, List.drop_drop] at this
theorem Del.start {l : List C3} {i : Nat} (hi : i < l.length) (hc : canC (at3 l i) = false) (ha : ∀ j, j < i → canC (at3 l j) = true) : Del l i (i + 1) l := by
  refine ⟨by omega, by omega, rfl, ?_, rfl⟩
  rw [filter_next hi, if_neg (by rw [hc]; simp), List.append_nil]
  symm
  rw [List.filter_eq_self]
  intro x hx
  obtain ⟨j, hj, e⟩ := mem_at3 hx
  rw [List.length_take] at hj
  have e2 : at3 (l.take i) j = at3 l j := by
    unfold at3; rw [List.getD_eq_getElem?_getD, List.getD_eq_getElem?_getD, List.getElem?_take, if_pos (by omega)]
  rw [← e, e2]
  exact ha j (by omega)
theorem Del.keep {l s : List C3} {i j : Nat} (h : Del l i j s) (hj : j < l.length) (hc : canC (at3 l j) = true) : Del l (i + 1) (j + 1) (s.set i (at3 l j)) := by
  obtain ⟨hij, _, hs, ht, hd⟩ := h
  refine ⟨by omega, by omega, by simpa using hs, ?_, ?_⟩
  · rw [filter_next hj, if_pos hc, ← ht, List.take_add_one, List.take_set_of_le (Nat.le_refl i), List.getElem?_set, if_pos rfl, if_pos (by omega)]
    rfl
  · rw [List.drop_set_of_lt (by omega)]
    exact drop_next hd
theorem Del.skip {l s : List C3} {i j : Nat} (h : Del l i j s) (hj : j < l.length) (hc : canC (at3 l j) = false) : Del l i (j + 1) s := by
  obtain ⟨hij, _, hs, ht, hd⟩ := h
  refine ⟨by omega, by omega, hs, ?_, drop_next hd⟩
  rw [filter_next hj, if_neg (by rw [hc]; simp), List.append_nil, ht]
theorem Del.stop {l s : List C3} {i : Nat} (h : Del l i l.length s) : s.take i = l.filter canC ∧ i < s.length := by
  obtain ⟨hij, _, hs, ht, _⟩ := h
  rw [List.take_length] at ht
  exact ⟨ht, by omega⟩
/-- clear, on the end of a row. -/
theorem run_clear_T (w : World) {t e ty : TypeId} (z : Value) (ht : Try.prog.underlying t = some (.slice e)) (hv : ∀ w, (zeroValue e).run Try.prog w = .ok z w) (b o n c m : Nat) (hn : 0 < n)
    (hz : (Builtin.zeroCells z.cells n).toList.length = m) (h1 : ∀ v ∈ (Builtin.zeroCells z.cells n).toList, v.oneCell' = true)
    (hc : ∀ j, j < m → (w.cell? ⟨b, o + j, none⟩).isSome = true) (hf : ∀ j, j < m → w.frozen? ⟨b, o + j, none⟩ = false) :
    (Builtin.clear_ #[t] ty #[.slice (some ⟨b, o, none⟩) n c]).run Try.prog w = .ok (.tuple #[]) (w.setCells b o (Builtin.zeroCells z.cells n).toList) := by
  have hst := run_storeCells_cells (P := Try.prog) b o (Builtin.zeroCells z.cells n).toList 0 w (by rw [hz]; simpa using hc) (by rw [hz]; simpa using hf) h1
  simp only [Nat.add_zero] at hst
  obtain ⟨m, rfl⟩ : ∃ m, n = m + 1 := ⟨n - 1, by omega⟩
  simp [Builtin.clear_, run_underlying ht, hv, hst]
theorem run_clear_op {ρ : Operand → Value} {o : Oper} {x : Operand} {t : TypeId} (ho : o.op = .call { callee := .builtin .clear, args := #[x], argTypes := #[t] }) {v : Value} (hx : ρ x = v) {w w' : World} (hrun : (Builtin.clear_ #[t] o.type #[v]).run Try.prog w = .ok (.tuple #[]) w') : (execOp ρ o).run Try.prog w = .ok (.value (.tuple #[])) w' := by
  unfold execOp
  simp only [ho, resolve, invoke, builtin, Sem.run_bind, Sem.run_pure, Result.andThen_ok, List.map_toArray, List.map_cons, List.map_nil, hx, hrun]
theorem zero55 (w : World) : (zeroValue 55).run Try.prog w = .ok (.agg #[.int .i64 0, .int .i64 0, .int .i64 0]) w := by
  simp [go_sem, zeroValue, Try.t55]
theorem zeros55 (n : Nat) : (Builtin.zeroCells (Value.agg #[.int .i64 0, .int .i64 0, .int .i64 0]).cells n).toList.length = 3 * n ∧ ∀ v ∈ (Builtin.zeroCells (Value.agg #[.int .i64 0, .int .i64 0, .int .i64 0]).cells n).toList, v.oneCell' = true := by
  constructor
  · simp [Builtin.zeroCells, Value.cells]; omega
  · intro v hv
    simp [Builtin.zeroCells, Value.cells] at hv
    obtain ⟨i, _, rfl⟩ := hv
    have : i % 3 = 0 ∨ i % 3 = 1 ∨ i % 3 = 2 := by omega
    rcases this with h | h | h <;> simp [h, Value.oneCell']

set_option maxRecDepth 100000 in
set_option maxHeartbeats 1000000 in
theorem delete_row (w : World) (g cap : Nat) (l : List C3) (hR : TRow w g cap l) (hn : l.length ≤ 1000) (h0 : 0 < l.length) :
    Calls Try.prog 31 #[.slice (some ⟨g, 0, none⟩) l.length cap, .func (.func 33) #[] #[]] w fun e w' => ∃ (n : Nat), e = .returned (.slice (some ⟨g, 0, none⟩) n cap) ∧ n = (l.filter canC).length ∧ TRow w' g cap (l.filter canC) ∧ Kept (· = g) w w' := by
  have R0 := Lib.hid hR
  have hcap := hR.cap_
  clear hR
  go_enter Try.func31, Try.ntmps31
  go_wp2_with fail
  refine (index_any w (some ⟨g, 0, none⟩) cap l R0.out.reads hn).mono ?_
  rintro e w1 ⟨i0, k0, rfl, hF, hb1⟩
  rcases hF with ⟨rfl, _, hall⟩ | ⟨rfl, hi0, hci, hall⟩
  · have hf : l.filter canC = l := by
      rw [List.filter_eq_self]
      intro x hx
      obtain ⟨j, hj, e⟩ := mem_at3 hx
      rw [← e]; exact hall j hj
    have HF := Lib.hid hf
    have R1 := Lib.hid (R0.out.keep (hb1.block g R0.out.lt))
    have B1 := Lib.hid hb1
    clear hf hall hb1
    go_wp2_with fail
    go_ret
    exact ⟨l.length, rfl, by rw [HF.out], by rw [HF.out]; exact R1.out, Kept.of_below B1.out _⟩
  · have ST := Lib.hid (Del.start hi0 hci hall)
    have R1 := Lib.hid (R0.out.keep (hb1.block g R0.out.lt))
    have K1 := Lib.hid (Kept.of_below hb1 (· = g))
    have hk0 : ((i0 : Int) == -1) = false := by rw [beq_eq_false_iff_ne]; omega
    have hw0 : IntKind.i64.wrap ((i0 : Int) + 1) = ((i0 + 1 : Nat) : Int) := by rw [IntKind.wrap_i64]; omega
    have HI0 := Lib.hid hi0
    clear hci hall hb1
    go_wp2_with fail
    go_loopw [5, 6] (fun iv jv wr => ∃ (i j : Nat) (s : List C3), iv = .int .i64 i ∧ jv = .int .i64 j ∧ Del l i j s ∧ TRow wr g cap s ∧ Kept (· = g) w wr) (fun _ jv _ => l.length - (intOf jv).toNat)
    case atStart => exact ⟨i0, i0 + 1, l, rfl, by go_num, ST.out, R1.out, K1.out⟩
    case round =>
      obtain ⟨i, j, s, rfl, rfl, hD, hT, hK⟩ := hrel
      have DD := Lib.hid hD
      have TT := Lib.hid hT
      have KK := Lib.hid hK
      have hjl : j ≤ l.length := hD.2.1
      have hij : i < j := hD.1
      clear hD hT hK
      by_cases hlt : j < l.length
      · have HLT := Lib.hid hlt
        have HIJ := Lib.hid hij
        have HX := Lib.hid (show wr.cell? ((⟨g, 0, none⟩ : Addr).add (j * 3)) = some (.int .i64 (at3 l j).1) ∧ wr.cell? (((⟨g, 0, none⟩ : Addr).add (j * 3)).add 1) = some (.int .i64 (at3 l j).2.1) ∧ wr.cell? (((⟨g, 0, none⟩ : Addr).add (j * 3)).add 2) = some (.int .i64 (at3 l j).2.2) by
          rw [addr_add, addr_add2, addr_add2, ← DD.out.at hlt]
          exact TT.out.cell (by rw [DD.out.2.2.1]; exact hlt))
        have HC := Lib.hid (fun w => cannot_any (at3 l j) w)
        unfold tv at HC
        obtain ⟨w2, hw2⟩ : ∃ u, u = wr.alloc (.cells #[.int .i64 (at3 l j).1, .int .i64 (at3 l j).2.1, .int .i64 (at3 l j).2.2] 55) := ⟨_, rfl⟩
        obtain ⟨G, hG⟩ : ∃ u, u = wr.heap.size := ⟨_, rfl⟩
        have X2 := Lib.hid (show w2.heap[G]? = some (.cells #[.int .i64 (at3 l j).1, .int .i64 (at3 l j).2.1, .int .i64 (at3 l j).2.2] 55 (0, 0)) by rw [hw2, hG]; exact heap_alloc_new wr _)
        have hb2 : Below wr.heap.size wr w2 := by rw [hw2]; exact (Below.refl _ _).alloc (Nat.le_refl _) _
        have T2 := Lib.hid (TT.out.keep (hb2.block g TT.out.lt))
        have K2 := Lib.hid (KK.out.trans (T := fun _ => False) (U := (· = g)) (Kept.of_below hb2 _) (fun _ _ h => h) (fun _ _ h => h.elim))
        have HGG := Lib.hid (show g ≠ G by rw [hG]; exact Nat.ne_of_lt TT.out.lt)
        have hx1 := cell_of_row w2 G 0 _ 55 (0, 0) X2.out
        have hx2 := cell_of_row w2 G 1 _ 55 (0, 0) X2.out
        have hx3 := cell_of_row w2 G 2 _ 55 (0, 0) X2.out
        simp only [hw2, hG] at hx1 hx2 hx3
        clear hij hlt
        go_upto_region 8 with (first | refine l_val rfl (run_at_T Try.underlying47 size55 (x := .tmp 22) (y := .tmp 23) (ad := ⟨g, 0, none⟩) (i := j) rfl rfl rfl HLT.out _) ?_ | refine l_val rfl (run_load_triple Try.underlying55 size55 (x := .tmp 24) (d := at3 l j) rfl rfl HX.out) ?_)
        go_wp2_with fail
        rw [← hw2]
        refine (HC.out _).mono ?_
        rintro e w3 ⟨rfl, hb3⟩
        have T3 := Lib.hid (T2.out.keep (hb3.block g T2.out.lt))
        have X3 := Lib.hid ((hb3.block G (row_lt X2.out)).trans X2.out)
        have K3 := Lib.hid (K2.out.trans (T := fun _ => False) (U := (· = g)) (Kept.of_below hb3 _) (fun _ _ h => h) (fun _ _ h => h.elim))
        rw [← hG]
        clear hx1 hx2 hx3 hb3 hb2 hw2 hG
        cases hcan : canC (at3 l j) with
        | true =>
          have HCA := Lib.hid (DD.out.keep HLT.out hcan)
          have HIL := Lib.hid (show i < s.length by rw [DD.out.2.2.1]; have := HIJ.out; have := HLT.out; omega)
          have hx1 := cell_of_row w3 G 0 _ 55 (0, 0) X3.out
          have hx2 := cell_of_row w3 G 1 _ 55 (0, 0) X3.out
          have hx3 := cell_of_row w3 G 2 _ 55 (0, 0) X3.out
          obtain ⟨c1, c2, c3⟩ := T3.out.cell HIL.out
          have f1 := T3.out.free (i * 3)
          have f2 := T3.out.free (i * 3 + 1)
          have f3 := T3.out.free (i * 3 + 2)
          have hil : i < l.length := by rw [← DD.out.2.2.1]; exact HIL.out
          go_wp2_with fail
          go_roundw
          case rel => exact ⟨i + 1, j + 1, s.set i (at3 l j), by go_num, by go_num, HCA.out, T3.out.put HIL.out _, K3.out.trans (U := (· = g)) (putT_kept w3 g i (at3 l j)) (fun _ _ h => h) (fun _ _ h => h)⟩
          case measure => have := HLT.out; simp [intOf]; omega
        | false =>
          have HCA := Lib.hid (DD.out.skip HLT.out hcan)
          go_wp2_with fail
          go_roundw
          case rel => exact ⟨i, j + 1, s, rfl, by go_num, HCA.out, T3.out, K3.out⟩
          case measure => have := HLT.out; simp [intOf]; omega
      · have hje : j = l.length := by omega
        subst hje
        have HS := Lib.hid DD.out.stop
        have hil : i < l.length := by rw [← DD.out.2.2.1]; exact HS.out.2
        have hic : ¬ cap = i := by omega
        have hi2 : (i : Int) ≤ (l.length : Int) := by omega
        have hi3 : (i : Int) ≤ (cap : Int) := by omega
        have HIC := Lib.hid (show i < cap by omega)
        obtain ⟨cur, hg, hsz, _⟩ := TT.out.ex
        have HCC := Lib.hid (show ∀ q, q < 3 * (l.length - i) → (wr.cell? ⟨g, i * 3 + q, none⟩).isSome = true from fun q hq => by
          rw [cell_of_row wr g _ cur 55 (0, 0) hg]
          have : i * 3 + q < cur.size := by omega
          rw [Array.getElem?_eq_getElem this]; rfl)
        have HFF := Lib.hid (show ∀ q, wr.frozen? ⟨g, q, none⟩ = false from fun q => TT.out.free q)
        obtain ⟨cur', hc1, hc2, hc3⟩ := setCells_row (g := g) (Builtin.zeroCells (Value.agg #[.int .i64 0, .int .i64 0, .int .i64 0]).cells (l.length - i)).toList (i * 3) wr cur hg
        have RT := Lib.hid (show TRow (wr.setCells g (i * 3) (Builtin.zeroCells (Value.agg #[.int .i64 0, .int .i64 0, .int .i64 0]).cells (l.length - i)).toList) g cap (l.filter canC) by
          rw [← HS.out.1]
          have h5 := TT.out.take i
          obtain ⟨c5, h51, h52, h53⟩ := h5.ex
          rw [hg] at h51
          cases h51
          refine ⟨⟨cur', hc1, by rw [hc2, hsz], fun q hq => ?_⟩, h5.cap_, h5.max⟩
          have hq2 := hq
          rw [List.length_take] at hq2
          rw [hc3 _ (by omega), hc3 _ (by omega), hc3 _ (by omega)]
          exact h53 q hq)
        have HLF := Lib.hid (show i = (l.filter canC).length by rw [← HS.out.1, List.length_take]; have := HS.out.2; omega)
        have HK := Lib.hid (KK.out.trans (U := (· = g)) (setCells_kept wr g (i * 3) (Builtin.zeroCells (Value.agg #[.int .i64 0, .int .i64 0, .int .i64 0]).cells (l.length - i)).toList) (fun _ _ h => h) (fun _ _ h => h))
        have HPO := Lib.hid (show 0 < l.length - i by omega)
        clear hg hsz hc1 hc2 hc3 hlt hij
        go_wp2_with (refine l_run rfl (run_clear_op (x := .tmp 38) rfl rfl (run_clear_T _ (.agg #[.int .i64 0, .int .i64 0, .int .i64 0]) Try.underlying47 zero55 g (i * 3) (l.length - i) (cap - i) (3 * (l.length - i)) HPO.out (zeros55 _).1 (zeros55 _).2 HCC.out (fun q _ => HFF.out _))) ?_)
        go_ret
        exact ⟨i, rfl, HLF.out, RT.out, HK.out⟩

theorem delete_own (w : World) (B : Nat) (v : Value) (l : List C3) (hown : w.ownsRow B 55 3 v l.length (tcells l)) (hn : l.length ≤ 1000) :
    Calls Try.prog 31 #[v, .func (.func 33) #[] #[]] w fun e w' => ∃ v', e = .returned v' ∧ w'.ownsRow B 55 3 v' (l.filter canC).length (tcells (l.filter canC)) ∧ Kept (fun k => v.ownBlock = some k) w w' := by
  rcases Nat.eq_zero_or_pos l.length with h0 | h0
  · have hl : l = [] := List.eq_nil_of_length_eq_zero h0
    subst hl
    obtain ⟨a, c, rfl⟩ := own_slice hown
    have OW := Lib.hid hown
    have HX := Lib.hid (index_any w a c [] (fun h => absurd h (by simp)) (by simp))
    clear hown
    go_enter Try.func31, Try.ntmps31
    go_wp2_with fail
    refine HX.out.mono ?_
    rintro e w1 ⟨i0, k0, rfl, hF, hb1⟩
    have hk : k0 = -1 := by
      rcases hF with ⟨h, _⟩ | ⟨_, h, _⟩
      · exact h
      · simp at h
    subst hk
    have B1 := Lib.hid hb1
    have O1 := Lib.hid (own_row OW.out (fun k hk => hb1.block k (own_lt OW.out hk).1))
    clear hF hb1
    go_wp2_with fail
    go_ret
    exact ⟨_, rfl, O1.out, Kept.of_below B1.out _⟩
  · obtain ⟨g, cap, rfl, hB, hR⟩ := trow_of_own hown rfl h0
    refine (delete_row w g cap l hR hn h0).mono ?_
    rintro e w' ⟨n, rfl, rfl, hT, hK⟩
    exact ⟨_, rfl, own_of_trow hT hB, hK.os, hK.tape, hK.output, hK.size, fun k hk hs => hK.block k hk (fun e => hs (by rw [e]; rfl))⟩
end Go.Proofs.Ytcmbmocineegoaa
