/-
  What the document's Without answers: the list without that at a place, in a row of its own.
  Conditions: none.
-/
import Derived.Deep.RegionLaw
import Derived.Test.YtcmbmocineegoaaRefs
namespace Go.Proofs.Ytcmbmocineegoaa
open Go.ChangeShapes Go.WideShapes Go.ChangeAt Go.RowKit
section
variable {P : Program} (w : World)
theorem step_append_any {ops : Array Oper} {o : Oper} {a : Act} {K : Act → World → Prop} {Q : Exit → Act → World → Prop} {E : Prop} (hgd : o.guard = none) (s x : Operand) (t : TypeId)
    (ho : o.op = .call { callee := .builtin .append, args := #[s, x], argTypes := #[t, t] })
    (base : Nat) (e : TypeId) (i : TypeInfo) (z : Value) (size bytes : Nat) (ht : P.underlying t = some (.slice e)) (hi : P.info? e = some i) (hz : i.zero = some z)
    (hsize : i.size = size) (hby : i.bytes = bytes) (hzs : z.cells.size = size) (hsz : 0 < size)
    (v : Value) (n : Nat) (xs : List Value) (hs : a.eval s = v) (hown : w.ownsRow base e size v n xs)
    (B : Nat) (A : Option Addr) (m c : Nat) (news : List Value) (hx : a.eval x = .slice A m c) (hr : Reads w B size A m news) (h1 : ∀ u ∈ news, u.oneCell' = true)
    (h63 : n + m ≤ maxLen) (hbytes : (n + m) * bytes ≤ 140737488355328) (hbase : base ≤ w.heap.size)
    (h : ∀ v' w', w'.ownsRow base e size v' (n + m) (xs ++ news) → w.grownBy w' v.ownBlock → (v'.ownBlock = v.ownBlock ∨ v'.ownBlock = some w.heap.size) → K (a.put o.dst v') w') :
    if Region.wanted o (yielded ops a.tmps) = true then Oper.wp P o a w K Q else E := by
  have hw : Region.wanted o (yielded ops a.tmps) = true := by simp [Region.wanted, hgd]
  rw [if_pos hw]
  exact wp_append_any w s x t ho base e i z size bytes ht hi hz hsize hby hzs hsz v n xs hs hown B A m c news hx hr h1 h63 hbytes hbase h
end
theorem at_take {l : List D} {k j : Nat} (h : j < k) : at_ (l.take k) j = at_ l j := by
  unfold at_; rw [List.getD_eq_getElem?_getD, List.getD_eq_getElem?_getD, List.getElem?_take, if_pos h]
theorem at_drop (l : List D) (k j : Nat) : at_ (l.drop k) j = at_ l (k + j) := by
  unfold at_; rw [List.getD_eq_getElem?_getD, List.getD_eq_getElem?_getD, List.getElem?_drop]
theorem DReads.take {w : World} {B : Nat} {A : Option Addr} {l : List D} (h : DReads w B A l) (k : Nat) : DReads w B A (l.take k) := fun h0 => by
  rw [List.length_take] at h0
  obtain ⟨ad, e, hlt, hc⟩ := h (by omega)
  refine ⟨ad, e, hlt, fun j hj => ?_⟩
  rw [List.length_take] at hj
  rw [at_take (by omega)]
  exact hc j (by omega)
theorem DReads.drop {w : World} {B : Nat} {ad : Addr} {l : List D} (h : DReads w B (some ad) l) (k : Nat) : DReads w B (some (ad.add (k * 2))) (l.drop k) := fun h0 => by
  rw [List.length_drop] at h0
  obtain ⟨ad', e, hlt, hc⟩ := h (by omega)
  cases e
  refine ⟨_, rfl, by rw [block_add]; exact hlt, fun j hj => ?_⟩
  rw [List.length_drop] at hj
  rw [at_drop, add_add, show k * 2 + j * 2 = (k + j) * 2 by omega]
  exact hc (k + j) (by omega)

set_option maxRecDepth 100000 in
set_option maxHeartbeats 1000000 in
theorem without_any (w : World) (A : Option Addr) (c : Nat) (l : List D) (hr : DReads w w.heap.size A l) (hn : l.length ≤ 1000) (hc : l.length ≤ c) (k : Nat) (hk : k < l.length) :
    Calls Try.prog 18 #[.slice A l.length c, .int .i64 (k : Int)] w fun e w' => ∃ v, e = .returned v ∧ w'.ownsRow w.heap.size 29 2 v (l.length - 1) (dcells (l.eraseIdx k)) ∧ Below w.heap.size w w' := by
  obtain ⟨i0, hi0, hz0, hz1, hz2⟩ := info_parts info29
  obtain ⟨ad, rfl, _, _⟩ := hr (by omega)
  obtain ⟨q, hq⟩ : ∃ q, q = k + 1 := ⟨_, rfl⟩
  have HQ := Lib.hid hq
  obtain ⟨l1, hl1⟩ : ∃ l1, l1 = l.take k := ⟨_, rfl⟩
  obtain ⟨l2, hl2⟩ : ∃ l2, l2 = l.drop q := ⟨_, rfl⟩
  obtain ⟨W1, hW1⟩ : ∃ W1, W1 = (w.alloc (.cells #[] 29)).drew := ⟨_, rfl⟩
  have hb1 : Below w.heap.size w W1 := by rw [hW1]; exact ((Below.refl _ _).alloc (Nat.le_refl _) _).drew
  have B1 := Lib.hid hb1
  have R1 := Lib.hid (show Reads W1 w.heap.size 2 (some ad) k (dcells l1) by
    have := reads_of ((hr.below hb1).take k)
    rw [List.length_take, Nat.min_eq_left (by omega)] at this
    rw [hl1]; exact this)
  have R2 := Lib.hid (show DReads W1 w.heap.size (if c = q then some ad else some (ad.add (q * 2))) l2 by
    by_cases e : c = q
    · intro h0
      rw [hl2, List.length_drop] at h0
      omega
    · rw [if_neg e, hl2]; exact (hr.below hb1).drop q)
  have OW0 := Lib.hid (show W1.ownsRow w.heap.size 29 2 (.slice (some ⟨w.heap.size, 0, none⟩) 0 0) 0 [] by rw [hW1]; exact (World.ownsRow_lit (e := 29) (size := 2) (base := w.heap.size) w #[] 0 (Nat.le_refl _) (by unfold maxLen; omega) rfl).drew)
  have HE := Lib.hid (show dcells l1 ++ dcells l2 = dcells (l.eraseIdx k) by rw [hl1, hl2, hq, ← dcells_append, List.eraseIdx_eq_take_drop_succ])
  have HL2 := Lib.hid (show l2.length = l.length - q by rw [hl2, List.length_drop])
  have HL3 := Lib.hid (show k + (l.length - q) = l.length - 1 by omega)
  have HM1 : k ≤ 1000 := by omega
  have HWS := Lib.hid hW1
  have k1 : (k : Int) ≤ (l.length : Int) := by omega
  have k2 : (k : Int) ≤ (c : Int) := by omega
  have k3 : (q : Int) ≤ (l.length : Int) := by omega
  have k4 : (q : Int) ≤ (c : Int) := by omega
  have hwr : IntKind.i64.wrap ((k : Int) + 1) = (q : Int) := by rw [IntKind.wrap_i64]; omega
  clear hr hq hl1 hl2
  go_enter Try.func18, Try.ntmps18
  go_wp2_with fail
  go_region_law (first
    | (rw [← hW1]
       refine step_append_any _ rfl (.tmp 5) (.tmp 8) _ rfl w.heap.size 29 i0 _ 2 16 Try.underlying22 hi0 hz0 hz1 hz2 rfl (by omega) (.slice (some ⟨w.heap.size, 0, none⟩) 0 0) 0 [] rfl OW0.out _ (some ad) k c (dcells l1) rfl R1.out (dcells_one _) (by unfold maxLen; omega) (by omega) B1.out.size ?_
       intro v1 w1 hown1 hgr1 hat1
       have b2 : Below w.heap.size w w1 := B1.out.grown hgr1 B1.out.size (fun k hk => by cases hk; exact Nat.le_refl _)
       have B2 := Lib.hid b2
       have O1 := Lib.hid hown1
       have b12 : Below w.heap.size W1 w1 := (Below.refl _ _).grown hgr1 B1.out.size (fun k hk => by cases hk; exact Nat.le_refl _)
       have R3 := Lib.hid (R2.out.below b12)
       clear hown1 hgr1 hat1 b2 b12)
    | (refine step_append_any _ rfl (.tmp 9) (.tmp 13) _ rfl w.heap.size 29 i0 _ 2 16 Try.underlying22 hi0 hz0 hz1 hz2 rfl (by omega) v1 (0 + k) ([] ++ dcells l1) rfl O1.out _ (if c = q then some ad else some (ad.add (q * 2))) (l.length - q) (c - q) (dcells l2) rfl (HL2.out ▸ reads_of R3.out) (dcells_one _) (by unfold maxLen; omega) (by omega) B2.out.size ?_
       intro v2 w2 hown2 hgr2 hat2
       have B3 := Lib.hid (B2.out.grown hgr2 B2.out.size (fun k hk => (own_lt O1.out hk).2))
       have O2 := Lib.hid hown2
       clear hown2 hgr2 hat2))
  all_goals (
    go_wp2
    all_goals (
      go_ret
      refine ⟨v2, rfl, ?_, B3.out⟩
      have := O2.out
      rw [List.nil_append, HE.out, Nat.zero_add, HL3.out] at this
      exact this))
end Go.Proofs.Ytcmbmocineegoaa
