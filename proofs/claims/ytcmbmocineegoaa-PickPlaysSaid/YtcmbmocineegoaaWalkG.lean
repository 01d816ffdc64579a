/-
  What Sorted does: the items, rising, in a row of its own; nothing that was there turns.
  Conditions: no more than a thousand items.
-/
import Derived.Test.YtcmbmocineegoaaWalkF
namespace Go.Proofs.Ytcmbmocineegoaa
open Go.ChangeShapes Go.WideShapes Go.RowKit

theorem block_add (a : Addr) (n : Nat) : (a.add n).block = a.block := by unfold Addr.add; split <;> rfl
theorem add_add (a : Addr) (i j : Nat) : (a.add i).add j = a.add (i + j) := by
  unfold Addr.add
  by_cases hi : i = 0 <;> by_cases hj : j = 0 <;> simp [hi, hj, Nat.add_assoc]

/-- The slice's first cells, two for each item, are those of the list; they lie below the block B. -/
def DReads (w : World) (B : Nat) (A : Option Addr) (l : List D) : Prop :=
  0 < l.length → ∃ ad, A = some ad ∧ ad.block < B ∧ ∀ j, j < l.length → w.cell? (ad.add (j * 2)) = some (.int .i64 (at_ l j).1) ∧ w.cell? ((ad.add (j * 2)).add 1) = some (.int .i64 (at_ l j).2)
theorem DReads.below {w w' : World} {B : Nat} {A : Option Addr} {l : List D} (h : DReads w B A l) (hb : Below B w w') : DReads w' B A l := fun h0 => by
  obtain ⟨ad, e, hlt, hc⟩ := h h0
  refine ⟨ad, e, hlt, fun j hj => ?_⟩
  obtain ⟨a, b⟩ := hc j hj
  exact ⟨(hb.cell (by rw [block_add]; exact hlt)).trans a, (hb.cell (by rw [block_add, block_add]; exact hlt)).trans b⟩
theorem DReads.of_own {w : World} {B : Nat} {A : Option Addr} {l : List D} {n c : Nat} (h : w.ownsRow B 30 2 (.slice A n c) n (dcells l)) (hn : n = l.length) : DReads w w.heap.size A l := fun h0 => by
  obtain ⟨g, cap, hv, hB, hR⟩ := row_of_own h hn (by omega)
  cases hv
  have hadd : ∀ j, (⟨g, 0, none⟩ : Addr).add j = ⟨g, j, none⟩ := fun j => by unfold Addr.add; split <;> simp_all
  have hadd2 : ∀ j, (⟨g, j, none⟩ : Addr).add 1 = ⟨g, j + 1, none⟩ := fun j => by unfold Addr.add; simp
  exact ⟨_, rfl, hR.lt, fun j hj => by rw [hadd, hadd2]; exact ⟨hR.c1 hj, hR.c2 hj⟩⟩

section
variable {ρ : Operand → Value} {o : Oper}
theorem run_at_dueA {x y : Operand} (ho : o.op = .indexAddr 39 x y) {ad : Addr} {n c i : Nat} (hx : ρ x = .slice (some ad) n c) (hy : ρ y = .int .i64 (i : Int)) (hi : i < n) (w : World) :
    (execOp ρ o).run Try.prog w = .ok (.value (.pointer (some (ad.add (i * 2))))) w := by
  unfold execOp
  rw [ho]
  have h : (Instr.indexAt 39 (.slice (some ad) n c) (.int .i64 (i : Int))).run Try.prog w = .ok (.pointer (some (ad.add (i * 2)))) w := by
    simp [Instr.indexAt, asIntOf, Sem.run_bind, run_underlying Try.underlying39, run_size size30, hi]
  simp only [hx, hy, Sem.run_bind, h, Result.andThen_ok, Sem.run_pure]
theorem run_load_dueA {x : Operand} (ho : o.op = .load 30 x) {a : Addr} (hx : ρ x = .pointer (some a)) {d : D} {w : World} (h1 : w.cell? a = some (.int .i64 d.1)) (h2 : w.cell? (a.add 1) = some (.int .i64 d.2)) :
    (execOp ρ o).run Try.prog w = .ok (.value (.agg #[.int .i64 d.1, .int .i64 d.2])) w := by
  unfold execOp
  rw [ho]
  have a0 : a.add 0 = a := by unfold Addr.add; simp
  have e1 : ∀ acc, (loadCellsFrom a 0 2 acc).run Try.prog w = .ok ((acc.push (.int .i64 d.1)).push (.int .i64 d.2)) w := fun acc => by
    simp [loadCellsFrom, Sem.run_bind, load, Sem.run, a0, h1, h2]
  simp [hx, Instr.loadAt, Instr.sureAddr, loadVar, isAgg, Sem.run_bind, run_underlying Try.underlying30, run_size size30, loadCells, e1]
end

/-- Pop of a heap that has items. -/
theorem pop_own (w : World) (h B : Nat) (v : Value) (l : List D) (HO : HObj w h v) (hown : w.ownsRow B 30 2 v l.length (dcells l)) (HA : HAll l) (h0 : 0 < l.length) (hn : l.length ≤ 1000000) :
    Calls Try.prog 16 #[.pointer (some ⟨h, 0, none⟩)] w fun e w' => ∃ (v' : Value) (l' : List D), e = .returned (.tuple #[dv (at_ l 0), .bool true]) ∧ HObj w' h v' ∧ w'.ownsRow B 30 2 v' l'.length (dcells l') ∧ HAll l' ∧ v'.ownBlock = v.ownBlock ∧ l.Perm (at_ l 0 :: l') ∧
      Kept (fun k => k = h ∨ v.ownBlock = some k) w w' := by
  obtain ⟨g, cap, rfl, hB, hR⟩ := row_of_own hown rfl h0
  obtain ⟨m, hm⟩ : ∃ m, l.length = m + 1 := ⟨l.length - 1, by omega⟩
  rw [hm] at HO
  refine (pop_any w h g cap m l hm HO hR HA hn).mono ?_
  rintro e w' ⟨l', rfl, hO, hR', hp, hA, hK⟩
  exact ⟨_, l', rfl, hO, own_of_row hR' hB, hA, rfl, hp, hK.trans (Kept.refl (fun _ => False) _) (fun k _ hk => by
    rcases hk with e | e
    · exact .inl e
    · exact .inr (by simp [Value.ownBlock, e])) (fun _ _ hk => hk.elim)⟩

theorem own_lt {w : World} {B e s n : Nat} {v : Value} {xs : List Value} (h : w.ownsRow B e s v n xs) {k : Nat} (hk : v.ownBlock = some k) : k < w.heap.size ∧ B ≤ k := by
  rcases h.2 with ⟨rfl, _⟩ | ⟨g, cap, cur, rfl, hB, hg, _⟩
  · simp [Value.ownBlock] at hk
  · have e : g = k := by simpa [Value.ownBlock] using hk
    subst e
    refine ⟨?_, hB⟩
    rcases Nat.lt_or_ge g w.heap.size with hl | hl
    · exact hl
    · rw [Array.getElem?_eq_none hl] at hg; cases hg
theorem own_slice {w : World} {B e s n : Nat} {v : Value} {xs : List Value} (h : w.ownsRow B e s v n xs) : ∃ a c, v = .slice a n c := by
  rcases h.2 with ⟨rfl, hn⟩ | ⟨g, cap, cur, rfl, _⟩
  · exact ⟨none, 0, by rw [hn]⟩
  · exact ⟨_, _, rfl⟩
theorem own_row {w w' : World} {B e s n : Nat} {v : Value} {xs : List Value} (h : w.ownsRow B e s v n xs) (hk : ∀ k, v.ownBlock = some k → w'.heap[k]? = w.heap[k]?) : w'.ownsRow B e s v n xs := by
  refine ⟨h.1, ?_⟩
  rcases h.2 with hh | ⟨g, cap, cur, rfl, hB, hg, hr⟩
  · exact .inl hh
  · exact .inr ⟨g, cap, cur, rfl, hB, (hk g rfl).trans hg, hr⟩
/-- Pop of any heap. -/
theorem pop_both (w : World) (h B : Nat) (v : Value) (l : List D) (HO : HObj w h v) (hown : w.ownsRow B 30 2 v l.length (dcells l)) (HA : HAll l) (hn : l.length ≤ 1000000) :
    Calls Try.prog 16 #[.pointer (some ⟨h, 0, none⟩)] w fun e w' => ∃ (v' : Value) (l' : List D) (x : D) (ok : Bool), e = .returned (.tuple #[dv x, .bool ok]) ∧ HObj w' h v' ∧ w'.ownsRow B 30 2 v' l'.length (dcells l') ∧ HAll l' ∧ v'.ownBlock = v.ownBlock ∧
      Kept (fun k => k = h ∨ v.ownBlock = some k) w w' ∧ ((ok = false ∧ l = [] ∧ l' = [] ∧ x = (0, 0)) ∨ (ok = true ∧ l.Perm (x :: l') ∧ (∀ y ∈ l', less y x = false) ∧ x = at_ l 0)) := by
  rcases Nat.eq_zero_or_pos l.length with h0 | h0
  · have hl : l = [] := List.eq_nil_of_length_eq_zero h0
    subst hl
    obtain ⟨a, c, rfl⟩ := own_slice hown
    refine (pop_none w (some ⟨h, 0, none⟩) a c (.inr ⟨h, rfl, HO⟩)).mono ?_
    rintro e w' ⟨rfl, hb⟩
    exact ⟨_, [], (0, 0), false, rfl, (hb.block h (hb_lt HO)).trans HO, own_row hown (fun k hk => hb.block k (own_lt hown hk).1), HA, rfl, Kept.of_below hb _, .inl ⟨rfl, rfl, rfl, rfl⟩⟩
  · refine (pop_own w h B v l HO hown HA h0 hn).mono ?_
    rintro e w' ⟨v', l', rfl, hO, hW, hA', hvb, hp, hK⟩
    exact ⟨v', l', at_ l 0, true, rfl, hO, hW, hA', hvb, hK, .inr ⟨rfl, hp, fun y hy => by
      obtain ⟨j, hj, e⟩ := mem_at (hp.mem_iff.2 (List.mem_cons_of_mem _ hy))
      rw [← e]; exact hall_min HA j hj, rfl⟩⟩

def sliceLen : Value → Nat
  | .slice _ n _ => n
  | _ => 0
theorem own_len {w : World} {B e s n : Nat} {v : Value} {xs : List Value} (h : w.ownsRow B e s v n xs) : sliceLen v = n := by
  rcases h.2 with ⟨rfl, hn⟩ | ⟨g, cap, cur, rfl, _⟩
  · rw [hn]; rfl
  · rfl
theorem own_base {w : World} {B B' e s n : Nat} {v : Value} {xs : List Value} (h : w.ownsRow B e s v n xs) (hB : B' ≤ B) : w.ownsRow B' e s v n xs := by
  refine ⟨h.1, ?_⟩
  rcases h.2 with hh | ⟨g, cap, cur, rfl, hb, hr⟩
  · exact .inl hh
  · exact .inr ⟨g, cap, cur, rfl, Nat.le_trans hB hb, hr⟩
theorem rising_snoc {d : List D} {x y : D} (h : Rising (d ++ [x])) (hy : less y x = false) : Rising (d ++ [x] ++ [y]) := by
  unfold Rising at *
  rw [List.pairwise_append] at h ⊢
  refine ⟨List.pairwise_append.2 h, List.pairwise_singleton _ _, fun a ha b hb => ?_⟩
  rw [List.mem_singleton] at hb
  subst hb
  rcases List.mem_append.1 ha with ha | ha
  · exact le_trans' (h.2.2 a ha x (by simp)) hy
  · rw [List.mem_singleton] at ha
    subst ha
    exact hy

/-- The state of the second loop. -/
def SInv (w : World) (l : List D) (h base : Nat) (o p b : Value) (wr : World) : Prop :=
  ∃ (v : Value) (rest done : List D) (g8 : Nat) (x : D), p = .pointer (some ⟨g8, 0, none⟩) ∧ HObj wr h v ∧ wr.ownsRow w.heap.size 30 2 v rest.length (dcells rest) ∧ HAll rest ∧ (∀ k, v.ownBlock = some k → k < base) ∧
    wr.ownsRow base 30 2 o done.length (dcells done) ∧ wr.heap[g8]? = some (.cells #[.int .i64 x.1, .int .i64 x.2] 30 (0, 0)) ∧ base ≤ g8 ∧ o.ownBlock ≠ some g8 ∧ Below w.heap.size w wr ∧ base ≤ wr.heap.size ∧ h < base ∧
    ((b = .bool false ∧ done.Perm l ∧ Rising done) ∨ (b = .bool true ∧ Rising (done ++ [x]) ∧ (∀ y ∈ rest, less y x = false) ∧ (done ++ x :: rest).Perm l))

theorem at_of_row {w : World} {g : Nat} {x : D} (h : w.heap[g]? = some (.cells #[.int .i64 x.1, .int .i64 x.2] 30 (0, 0))) : w.cell? ⟨g, 0, none⟩ = some (.int .i64 x.1) ∧ w.cell? ⟨g, 1, none⟩ = some (.int .i64 x.2) ∧ w.frozen? ⟨g, 0, none⟩ = false ∧ w.frozen? ⟨g, 1, none⟩ = false :=
  ⟨cell_of_row w g 0 _ 30 (0, 0) h, cell_of_row w g 1 _ 30 (0, 0) h, by simp [World.frozen?, h], by simp [World.frozen?, h]⟩

set_option maxRecDepth 100000 in
set_option maxHeartbeats 4000000 in
theorem sorted_any (w : World) (A : Option Addr) (c : Nat) (l : List D) (hr : DReads w w.heap.size A l) (hn : l.length ≤ 1000) :
    Calls Try.prog 21 #[.slice A l.length c] w fun e w' => ∃ (v : Value) (s : List D), e = .returned v ∧ w'.ownsRow w.heap.size 30 2 v s.length (dcells s) ∧ s.Perm l ∧ Rising s ∧ Below w.heap.size w w' := by
  obtain ⟨i0, hi0, hz0, hz1, hz2⟩ := info_parts info30
  have HR := Lib.hid hr
  clear hr
  go_enter Try.func21, Try.ntmps21
  go_wp2_with fail
  refine (new_any w).mono ?_
  rintro e w1 ⟨rfl, hO1, hb1, hs1⟩
  have O1 := Lib.hid hO1
  have B1 := Lib.hid hb1
  have W1 := Lib.hid (show w1.ownsRow w.heap.size 30 2 (.slice none 0 0) ([] : List D).length (dcells []) from ⟨rfl, .inl ⟨rfl, rfl⟩⟩)
  clear hO1 hb1 hs1
  go_wp2_with fail
  go_loopw [15] (fun i wr => ∃ (k : Nat) (v : Value) (lh : List D), i = .int .i64 k ∧ k ≤ l.length ∧ HObj wr w.heap.size v ∧ wr.ownsRow w.heap.size 30 2 v lh.length (dcells lh) ∧ lh.Perm (l.take k) ∧ HAll lh ∧ Below w.heap.size w wr) (fun i _ => l.length - (intOf i).toNat)
  case atStart => exact ⟨0, _, [], rfl, by omega, O1.out, W1.out, List.Perm.refl _, hall_nil, B1.out⟩
  case round =>
    obtain ⟨k, v, lh, rfl, hk, hO, hW, hp, hA, hb⟩ := hrel
    have O := Lib.hid hO
    have W := Lib.hid hW
    have PE := Lib.hid hp
    have HA := Lib.hid hA
    have B := Lib.hid hb
    clear hO hW hp hA hb
    by_cases hlt : k < l.length
    · obtain ⟨ad, rfl, hadB, hcell⟩ := (HR.out.below B.out) (by omega)
      obtain ⟨hx1, hx2⟩ := hcell k hlt
      have HX1 := Lib.hid hx1
      have HX2 := Lib.hid hx2
      have hlhl : lh.length ≤ 1000000 := by have := PE.out.length_eq; rw [List.length_take] at this; omega
      have OW := Lib.hid (show HObj (wr.alloc (.cells #[.int .i64 (at_ l k).1, .int .i64 (at_ l k).2] 30)) w.heap.size v from (Below.heap_alloc wr _ _ (hb_lt O.out)).trans O.out)
      have WW := Lib.hid (W.out.alloc (.cells #[.int .i64 (at_ l k).1, .int .i64 (at_ l k).2] 30))
      have BB := Lib.hid (B.out.alloc B.out.size (.cells #[.int .i64 (at_ l k).1, .int .i64 (at_ l k).2] 30))
      have PK := Lib.hid (show (at_ l k :: lh).Perm (l.take (k + 1)) by
        have e : l.take (k + 1) = l.take k ++ [at_ l k] := by rw [List.take_add_one, at_some hlt]; rfl
        rw [e]
        exact (PE.out.cons _).trans (List.perm_append_comm (l₁ := [at_ l k])))
      clear hcell hx1 hx2
      go_wp2_with (first | refine l_val rfl (run_at_dueA (x := .tmp 13) (y := .tmp 15) (ad := ad) (i := k) rfl rfl rfl hlt _) ?_ | refine l_val rfl (run_load_dueA (x := .tmp 17) (d := at_ l k) rfl rfl HX1.out HX2.out) ?_)
      refine (push_any _ w.heap.size w.heap.size v lh (at_ l k) OW.out WW.out (by have := B.out.size; simp; omega) HA.out hlhl).mono ?_
      rintro e w3 ⟨g3, cap3, l3, rfl, hO3, hR3, hl3, hp3, hA3, hg3, hx3, hK3⟩
      have O3 := Lib.hid hO3
      have W3 := Lib.hid (own_of_row hR3 hg3)
      have P3 := Lib.hid (hp3.trans PK.out)
      have A3 := Lib.hid hA3
      have B3 := Lib.hid (BB.out.trans (kept_below hK3 BB.out.size (fun k hk => by
        rcases hk with e | e
        · omega
        · exact (own_lt WW.out e).2)))
      clear hO3 hR3 hl3 hp3 hA3 hg3 hx3 hK3
      go_wp2_with fail
      go_roundw
      case rel => exact ⟨k + 1, _, l3, by go_num, by omega, O3.out, W3.out, P3.out, A3.out, B3.out⟩
      case measure => simp [intOf]; omega
    · have hkl : k = l.length := by omega
      subst hkl
      rw [List.take_length] at PE
      have hlhl : lh.length ≤ 1000000 := by have := PE.out.length_eq; omega
      go_wp2_with fail
      refine (pop_both wr w.heap.size w.heap.size v lh O.out W.out HA.out hlhl).mono ?_
      rintro e w4 ⟨v4, l4, x4, ok4, rfl, hO4, hW4, hA4, hvb4, hK4, hor4⟩
      have hb4 := B.out.trans (kept_below hK4 B.out.size (fun k hk => by
        rcases hk with e | e
        · omega
        · exact (own_lt W.out e).2))
      have START := Lib.hid (show SInv w l w.heap.size w4.heap.size (.slice none 0 0) (.pointer (some ⟨w4.heap.size, 0, none⟩)) (.bool ok4) (w4.alloc (.cells #[.int .i64 x4.1, .int .i64 x4.2] 30)) from
        ⟨v4, l4, [], w4.heap.size, x4, rfl, (Below.heap_alloc w4 _ _ (hb_lt hO4)).trans hO4, hW4.alloc _, hA4, fun k hk => (own_lt hW4 hk).1, ⟨rfl, .inl ⟨rfl, rfl⟩⟩, heap_alloc_new w4 _, Nat.le_refl _, by simp [Value.ownBlock], hb4.alloc hb4.size _, by simp, hb_lt hO4, by
          rcases hor4 with ⟨e1, e2, e3, e4⟩ | ⟨e1, e2, e3, e4⟩
          · exact .inl ⟨by rw [e1], by rw [← e2]; exact PE.out, List.Pairwise.nil⟩
          · exact .inr ⟨by rw [e1], List.pairwise_singleton _ _, e3, e2.symm.trans PE.out⟩⟩)
      have HS4 := Lib.hid hb4.size
      clear hO4 hW4 hA4 hvb4 hK4 hor4 hb4
      unfold dv
      go_wp2_with fail
      go_loopw [7, 8, 9] (fun o p b wr => SInv w l w.heap.size w4.heap.size o p b wr) (fun o _ _ _ => l.length + 1 - sliceLen o)
      case atStart => exact START.out
      case round =>
        obtain ⟨v2, rest, done, g8, x, rfl, hO2, hW2, hA2, hvb2, hD2, hX2, hg2, hog2, hB2, hbs2, hhb2, hor2⟩ := hrel
        rcases hor2 with ⟨rfl, hp2, hri2⟩ | ⟨rfl, hri2, hmin2, hp2⟩
        · go_wp2
          go_ret
          exact ⟨_, done, rfl, own_base hD2 HS4.out, hp2, hri2, hB2⟩
        · have hlen2 : done.length + 1 + rest.length = l.length := by have := hp2.length_eq; simp at this; omega
          obtain ⟨r1, r2, r3, r4⟩ := at_of_row hX2
          have hg8 : g8 < wr.heap.size := by
            rcases Nat.lt_or_ge g8 wr.heap.size with hl | hl
            · exact hl
            · rw [Array.getElem?_eq_none hl] at hX2; cases hX2
          have OO := Lib.hid hO2
          have WW := Lib.hid hW2
          have AA := Lib.hid hA2
          have VB := Lib.hid hvb2
          have DD := Lib.hid (hD2.alloc (.cells #[.int .i64 x.1, .int .i64 x.2] 30))
          have D0 := Lib.hid hD2
          have XX := Lib.hid hX2
          have OG := Lib.hid hog2
          have BB := Lib.hid hB2
          have HB := Lib.hid hhb2
          have G8 := Lib.hid hg2
          have RI := Lib.hid hri2
          have MN := Lib.hid hmin2
          have PP := Lib.hid hp2
          clear hO2 hW2 hA2 hvb2 hD2 hX2 hog2 hB2 hri2 hmin2 hp2
          go_wp2_with (at_builtin; (refine wpList_append_lies _ rfl (.tmp 34) (.tmp 36) _ rfl w4.heap.size 30 i0 _ 2 16 Try.underlying39 hi0 hz0 hz1 hz2 rfl (by omega) u7 done.length (dcells done) rfl DD.out ⟨wr.heap.size, 0, none⟩ 1 1 [.int .i64 x.1, .int .i64 x.2] rfl rfl (World.news_of_block (cs := #[.int .i64 x.1, .int .i64 x.2]) (t := 30) (fr := (0, 0)) (heap_alloc_new wr _)) (by simp [Value.oneCell']) (by omega) (by unfold maxLen; omega) (by omega) (by simp; omega) (wr.heap.size + 1) (by simp) ?_))
          intro gg cap w6 hown6 hgrow6 hat6 hlt6
          have hblk : ∀ k, k < wr.heap.size → u7.ownBlock ≠ some k → w6.heap[k]? = wr.heap[k]? := fun k hk hne => (hgrow6.block k (by simp; omega) (Ne.symm hne)).trans (Below.heap_alloc wr _ k hk)
          have hsz6 : wr.heap.size + 1 ≤ w6.heap.size := by have := hgrow6.size; simpa using this
          have hoh : u7.ownBlock ≠ some w.heap.size := fun e => by have := (own_lt D0.out e).2; have := HB.out; omega
          have hov : ∀ k, v2.ownBlock = some k → u7.ownBlock ≠ some k := fun k hk e => by have := (own_lt D0.out e).2; have := VB.out k hk; omega
          have X6 := hblk g8 hg8 OG.out
          rw [XX.out] at X6
          obtain ⟨s1, s2, s3, s4⟩ := at_of_row X6
          have O6 := Lib.hid (show HObj (w6.alloc (.cells #[.int .i64 x.1, .int .i64 x.2] 30)) w.heap.size v2 from (Below.heap_alloc w6 _ _ (by omega)).trans ((hblk _ (by omega) hoh).trans OO.out))
          have W6 := Lib.hid (show (w6.alloc (.cells #[.int .i64 x.1, .int .i64 x.2] 30)).ownsRow w.heap.size 30 2 v2 rest.length (dcells rest) from
            own_row WW.out (fun k hk => (Below.heap_alloc w6 _ _ (by have := (own_lt WW.out hk).1; omega)).trans (hblk k (own_lt WW.out hk).1 (hov k hk))))
          have B6 := Lib.hid ((BB.out.trans (((Below.refl w4.heap.size wr).alloc (by omega) (.cells #[.int .i64 x.1, .int .i64 x.2] 30)).grown hgrow6 (by simp; omega) (fun k hk => (own_lt D0.out hk).2) |>.mono HS4.out)))
          have D6 := Lib.hid hown6
          have T6 := Lib.hid hat6
          have HGG : gg ≠ w.heap.size ∧ (∀ k, v2.ownBlock = some k → gg ≠ k) := by
            refine ⟨fun e => ?_, fun k hk e => ?_⟩
            · rcases hat6 with e2 | e2
              · rw [e] at e2; exact hoh e2
              · have := HB.out; omega
            · rcases hat6 with e2 | e2
              · rw [e] at e2; exact hov k hk e2
              · have := VB.out k hk; omega
          have HGG := Lib.hid HGG
          have hrl : rest.length ≤ 1000000 := by omega
          have LG := Lib.hid hlt6
          clear r1 r2 r3 r4 X6 hblk hoh hov hown6 hgrow6 hat6 DD
          go_wp2_with fail
          refine (pop_both _ w.heap.size w.heap.size v2 rest O6.out W6.out AA.out hrl).mono ?_
          rintro e w7 ⟨v7, l7, x7, ok7, rfl, hO7, hW7, hA7, hvb7, hK7, hor7⟩
          have hbox : w7.heap[w6.heap.size]? = some (.cells #[.int .i64 x.1, .int .i64 x.2] 30 (0, 0)) :=
            (hK7.block _ (by simp) (fun e => by
              rcases e with e | e
              · omega
              · have := VB.out _ e; omega)).trans (heap_alloc_new w6 _)
          obtain ⟨t1, t2, t3, t4⟩ := at_of_row hbox
          have hb7 := (B6.out.alloc (by have := B6.out.size; omega) (.cells #[.int .i64 x.1, .int .i64 x.2] 30)).trans (kept_below hK7 (by have := B6.out.size; simp; omega) (fun k hk => by
            rcases hk with e | e
            · omega
            · exact (own_lt WW.out e).2))
          have hs7 : w6.heap.size + 1 ≤ w7.heap.size := by have := hK7.size; simpa using this
          have NEXT := Lib.hid (show SInv w l w.heap.size w4.heap.size (.slice (some ⟨gg, 0, none⟩) (done.length + 1) cap) (.pointer (some ⟨w6.heap.size, 0, none⟩)) (.bool ok7) (putD w7 w6.heap.size 0 x7) from
            ⟨v7, l7, done ++ [x], w6.heap.size, x7, rfl, (putD_other w7 _ 0 x7 _ (by omega)).trans hO7, own_row hW7 (fun k hk => putD_other w7 _ 0 x7 _ (by
                rw [hvb7] at hk; have := VB.out k hk; omega)), hA7, fun k hk => VB.out k (by rw [← hvb7]; exact hk), by
                have h1 : (w6.ownsRow w4.heap.size 30 2 (.slice (some ⟨gg, 0, none⟩) (done.length + 1) cap) (done ++ [x]).length (dcells (done ++ [x]))) := by
                  rw [dcells_append, List.length_append, List.length_singleton]; exact D6.out
                refine own_row h1 (fun k hk => ?_)
                have e : gg = k := by simpa [Value.ownBlock] using hk
                subst e
                rw [putD_other w7 _ 0 x7 _ (by have := LG.out; omega), hK7.block gg (by have := LG.out; simp; omega) (fun e => by
                  rcases e with e | e
                  · exact HGG.out.1 e
                  · exact HGG.out.2 gg e rfl)]
                exact Below.heap_alloc w6 _ _ LG.out, by
                unfold putD; simp [World.setCell, Array.getElem?_modify, hbox], by omega, by
                intro e
                have e2 : gg = w6.heap.size := by simpa [Value.ownBlock] using e
                have := LG.out; omega, hb7.trans (kept_below (putD_kept w7 w6.heap.size 0 x7) hb7.size (fun k hk => by subst hk; have := HB.out; omega)), by rw [putD_size]; omega, HB.out, by
                rcases hor7 with ⟨e1, e2, e3, e4⟩ | ⟨e1, e2, e3, e4⟩
                · exact .inl ⟨by rw [e1], by have := PP.out; rw [e2] at this; exact this, RI.out⟩
                · refine .inr ⟨by rw [e1], rising_snoc RI.out (MN.out x7 (e2.mem_iff.2 (by simp))), e3, ?_⟩
                  refine List.Perm.trans ?_ PP.out
                  rw [List.append_assoc]
                  exact (e2.symm.cons x).append_left done⟩)
          clear hO7 hW7 hA7 hvb7 hK7 hor7 hb7
          unfold dv
          go_wp2_with fail
          go_roundw
          case rel => exact NEXT.out
          case measure => rw [own_len D0.out]; simp [sliceLen]; omega

end Go.Proofs.Ytcmbmocineegoaa
