/-
  Two lists sorted, put together and sorted, are as both at once: HeapBoth answers true at every two lists, and writes nothing that was there.
  Conditions: none.
-/
import Derived.Test.YtcmbmocineegoaaAny
namespace Go.Proofs.Ytcmbmocineegoaa
open Go.ChangeShapes Go.WideShapes Go.ChangeAt Go.RowKit

theorem DReads.alloc_ {w : World} {A : Option Addr} {l : List D} (h : DReads w w.heap.size A l) (o : Obj) : DReads (w.alloc o) w.heap.size A l := h.below ((Below.refl _ _).alloc (Nat.le_refl _) o)

set_option maxRecDepth 100000 in
set_option maxHeartbeats 1000000 in
theorem both_run (w : World) (A : Option Addr) (c : Nat) (l : List D) (hr : DReads w w.heap.size A l) (A2 : Option Addr) (c2 : Nat) (l2 : List D) (hr2 : DReads w w.heap.size A2 l2) (h1 : l.length ≤ 100) (h2 : l2.length ≤ 100) :
    Calls Try.prog 7 #[.slice A l.length c, .slice A2 l2.length c2] w fun e w' => e = .returned (.bool true) ∧ Below w.heap.size w w' := by
  obtain ⟨i0, hi0, hz0, hz1, hz2⟩ := info_parts info30
  have HR := Lib.hid hr
  have HR2 := Lib.hid hr2
  have g1 : decide ((100 : Int) < (l.length : Int)) = false := decide_eq_false (by omega)
  have g2 : decide ((100 : Int) < (l2.length : Int)) = false := decide_eq_false (by omega)
  clear hr hr2
  go_enter Try.func7, Try.ntmps7
  go_wp2_with fail
  refine (awake_any _).mono ?_
  rintro e w1 ⟨rfl, hb1⟩
  have B1 := Lib.hid hb1
  have RA1 := Lib.hid (((HR.out.below hb1).more hb1.size).alloc_ (.cells #[] 30))
  have OW0 := Lib.hid (World.ownsRow_lit (e := 30) (size := 2) (base := w1.heap.size) w1 #[] 0 (Nat.le_refl _) (by unfold maxLen; omega) rfl)
  clear hb1
  go_wp2_with (at_builtin; refine wpList_append_any _ rfl (.tmp 21) (.tmp 22) _ rfl w1.heap.size 30 i0 _ 2 16 Try.underlying39 hi0 hz0 hz1 hz2 rfl (by omega) (.slice (some ⟨w1.heap.size, 0, none⟩) 0 0) 0 [] rfl OW0.out _ A l.length c (dcells l) rfl (reads_of RA1.out) (dcells_one _) (by unfold maxLen; omega) (by omega) (by simp) ?_)
  intro v1 w2 hown1 hgr1 hat1
  have hb2 : Below w1.heap.size w1 w2 := ((Below.refl _ _).alloc (Nat.le_refl _) (.cells #[] 30)).grown hgr1 (by simp) (fun k hk => by cases hk; exact Nat.le_refl _)
  have B2 := Lib.hid (B1.out.trans (hb2.mono B1.out.size))
  have V1 := Lib.hid (own_base hown1 B1.out.size)
  have RA2 := Lib.hid ((HR2.out.below B2.out).more B2.out.size)
  clear hown1 hgr1 hat1 hb2
  go_wp2_with (at_builtin; refine wpList_append_any _ rfl (.tmp 23) (.tmp 24) _ rfl w.heap.size 30 i0 _ 2 16 Try.underlying39 hi0 hz0 hz1 hz2 rfl (by omega) v1 l.length (dcells l) rfl V1.out _ A2 l2.length c2 (dcells l2) rfl (reads_of RA2.out) (dcells_one _) (by unfold maxLen; omega) (by omega) B2.out.size ?_)
  intro v2 w3 hown2 hgr2 hat2
  have hb3 : Below w.heap.size w w3 := B2.out.grown hgr2 B2.out.size (fun k hk => (own_lt V1.out hk).2)
  obtain ⟨lb, hlb⟩ : ∃ lb, lb = l ++ l2 := ⟨_, rfl⟩
  have V2 : w3.ownsRow w.heap.size 30 2 v2 lb.length (dcells lb) := by rw [hlb, dcells_append, List.length_append]; exact hown2
  obtain ⟨A3, c3, rfl, hr3⟩ := DReads.own V2
  have R3 := Lib.hid hr3
  have B3 := Lib.hid hb3
  have HLB := Lib.hid hlb
  have hlbl : lb.length ≤ 1000 := by rw [hlb, List.length_append]; omega
  clear hown2 hgr2 hat2 hb3 V2 hr3 hlb RA1 RA2 OW0 V1
  go_wp2_with fail
  refine (sorted_any w3 A3 c3 lb R3.out hlbl).mono ?_
  rintro e w4 ⟨vX, sX, rfl, hOX, hpX, hriX, hb4⟩
  have OX := Lib.hid hOX
  have PX := Lib.hid hpX
  have RX := Lib.hid hriX
  have B4 := Lib.hid (B3.out.trans (hb4.mono B3.out.size))
  have OE := Lib.hid (World.ownsRow_lit (e := 30) (size := 2) (base := w.heap.size) w4 #[] 0 B4.out.size (by unfold maxLen; omega) rfl)
  have B4a := Lib.hid (B4.out.alloc B4.out.size (.cells #[] 30))
  clear hOX hpX hriX hb4
  go_wp2_with fail
  refine (sorted_any (w4.alloc (.cells #[] 30)) A c l ((HR.out.below B4a.out).more B4a.out.size) (by omega)).mono ?_
  rintro e w5 ⟨v5, s5, rfl, hO5, hp5, hri5, hb5⟩
  obtain ⟨A5, c5, rfl, hr5⟩ := DReads.own hO5
  have R5 := Lib.hid hr5
  have P5 := Lib.hid hp5
  have B5 := Lib.hid (B4a.out.trans (hb5.mono B4a.out.size))
  have OE5 := Lib.hid (own_row OE.out (fun k hk => hb5.block k (own_lt OE.out hk).1))
  have hs5 : s5.length ≤ 100 := by have := hp5.length_eq; omega
  have OX5 := Lib.hid (own_row OX.out (fun k hk => (B4a.out.mono (Nat.le_refl _) |> fun _ => (hb5.block k (by have := (own_lt OX.out hk).1; simp; omega)).trans (Below.heap_alloc w4 _ k (own_lt OX.out hk).1))))
  clear hO5 hp5 hri5 hb5 hr5
  go_wp2_with (at_builtin; refine wpList_append_any _ rfl (.tmp 27) (.tmp 29) _ rfl w.heap.size 30 i0 _ 2 16 Try.underlying39 hi0 hz0 hz1 hz2 rfl (by omega) (.slice (some ⟨w4.heap.size, 0, none⟩) 0 0) 0 [] rfl OE5.out _ A5 s5.length c5 (dcells s5) rfl (reads_of R5.out) (dcells_one _) (by unfold maxLen; omega) (by omega) B5.out.size ?_)
  intro v6 w6 hown6 hgr6 hat6
  have V6 := Lib.hid hown6
  have B6 := Lib.hid (B5.out.grown hgr6 B5.out.size (fun k hk => (own_lt OE5.out hk).2))
  have hXlt : ∀ k, (vX).ownBlock = some k → k < w4.heap.size := fun k hk => (own_lt OX.out hk).1
  have OX6 := Lib.hid (own_row OX5.out (fun k hk => hgr6.block k (own_lt OX5.out hk).1 (by
    intro e
    have e2 : k = w4.heap.size := by simpa [Value.ownBlock] using e
    have := hXlt k hk; omega)))
  have W46 := Lib.hid (show w4.heap.size ≤ w6.heap.size ∧ (∀ k, v6.ownBlock = some k → w4.heap.size ≤ k) from by
    have h1 := hgr6.size
    have h2 := B4a.out.size
    have h3 : w4.heap.size < w5.heap.size := (own_lt OE5.out (k := w4.heap.size) rfl).1
    refine ⟨by omega, fun k hk => ?_⟩
    rcases hat6 with e | e
    · rw [e] at hk; cases hk; exact Nat.le_refl _
    · rw [e] at hk; cases hk; omega)
  clear hown6 hgr6 hat6
  go_wp2_with fail
  refine (sorted_any w6 A2 c2 l2 ((HR2.out.below B6.out).more B6.out.size) (by omega)).mono ?_
  rintro e w7 ⟨v7, s7, rfl, hO7, hp7, hri7, hb7⟩
  obtain ⟨A7, c7, rfl, hr7⟩ := DReads.own hO7
  have R7 := Lib.hid hr7
  have P7 := Lib.hid hp7
  have B7 := Lib.hid (B6.out.trans (hb7.mono B6.out.size))
  have V67 := Lib.hid (own_row V6.out (fun k hk => hb7.block k (own_lt V6.out hk).1))
  have OX7 := Lib.hid (own_row OX6.out (fun k hk => hb7.block k (own_lt OX6.out hk).1))
  have hs7 : s7.length ≤ 100 := by have := hp7.length_eq; omega
  clear hO7 hp7 hri7 hb7 hr7
  go_wp2_with (at_builtin; refine wpList_append_any _ rfl (.tmp 30) (.tmp 32) _ rfl w.heap.size 30 i0 _ 2 16 Try.underlying39 hi0 hz0 hz1 hz2 rfl (by omega) v6 s5.length (dcells s5) rfl V67.out _ A7 s7.length c7 (dcells s7) rfl (reads_of R7.out) (dcells_one _) (by unfold maxLen; omega) (by omega) B7.out.size ?_)
  intro v8 w8 hown8 hgr8 hat8
  obtain ⟨ls, hls⟩ : ∃ ls, ls = s5 ++ s7 := ⟨_, rfl⟩
  have V8 : w8.ownsRow w.heap.size 30 2 v8 ls.length (dcells ls) := by rw [hls, dcells_append, List.length_append]; exact hown8
  obtain ⟨A8, c8, rfl, hr8⟩ := DReads.own V8
  have R8 := Lib.hid hr8
  have B8 := Lib.hid (B7.out.grown hgr8 B7.out.size (fun k hk => (own_lt V67.out hk).2))
  have OX8 := Lib.hid (own_row OX7.out (fun k hk => hgr8.block k (own_lt OX7.out hk).1 (by
    intro e
    have := W46.out.2 k e.symm
    have := hXlt k hk; omega)))
  have hlsl : ls.length ≤ 1000 := by rw [hls, List.length_append]; omega
  have PLS := Lib.hid (show ls.Perm lb by rw [hls, HLB.out]; exact P5.out.append P7.out)
  clear hown8 hgr8 hat8 V8 hr8 hls
  go_wp2_with fail
  refine (sorted_any w8 A8 c8 ls R8.out hlsl).mono ?_
  rintro e w9 ⟨vY, sY, rfl, hOY, hpY, hriY, hb9⟩
  have hss : sX = sY := rising_unique RX.out hriY (PX.out.trans (PLS.out.symm.trans hpY.symm))
  subst hss
  have O4 := Lib.hid hOY
  have O34 := Lib.hid (own_base (own_row OX8.out (fun k hk => hb9.block k (own_lt OX8.out hk).1)) B3.out.size)
  have B9 := Lib.hid (B8.out.trans (hb9.mono B8.out.size))
  obtain ⟨a3, cx3, hv3⟩ := own_slice O34.out
  obtain ⟨a4, cx4, hv4⟩ := own_slice O4.out
  subst hv3
  subst hv4
  have hsl : sX.length = l.length + l2.length := by have := PX.out.length_eq; rw [HLB.out, List.length_append] at this; exact this
  have HSL := Lib.hid hsl
  have hs3 : sX.length ≤ 1000 := by omega
  have hle : ((sX.length : Int) == (sX.length : Int)) = true := by simp
  clear hOY hpY hriY hb9 hXlt hsl
  go_wp2_with fail
  go_loopw [7] (fun i wr => ∃ k : Nat, i = .int .i64 k ∧ k ≤ sX.length ∧ wr.ownsRow w8.heap.size 30 2 (.slice a4 sX.length cx4) sX.length (dcells sX) ∧ wr.ownsRow w.heap.size 30 2 (.slice a3 sX.length cx3) sX.length (dcells sX) ∧ Below w.heap.size w wr) (fun i _ => sX.length - (intOf i).toNat)
  case atStart => exact ⟨0, rfl, Nat.zero_le _, O4.out, O34.out, B9.out⟩
  case round =>
    obtain ⟨k, rfl, hk, hA, hBq, hb⟩ := hrel
    have HA := Lib.hid hA
    have HBq := Lib.hid hBq
    have HB := Lib.hid hb
    clear hA hBq hb
    by_cases hlt : k < sX.length
    · obtain ⟨g4, cc4, hv4, _, R4⟩ := row_of_own HA.out rfl (by omega)
      obtain ⟨g3, cc3, hv3, _, R3'⟩ := row_of_own HBq.out rfl (by omega)
      obtain rfl : a4 = some ⟨g4, 0, none⟩ := (Value.slice.inj hv4).1
      obtain rfl : a3 = some ⟨g3, 0, none⟩ := (Value.slice.inj hv3).1
      clear hv4 hv3
      have HLT := Lib.hid hlt
      have x1 := R4.c1 hlt
      have x2 := R4.c2 hlt
      have y1 := R3'.c1 hlt
      have y2 := R3'.c2 hlt
      have k0 : (0 : Int) ≤ (k : Int) := by omega
      have k1 : (k : Int) < (sX.length : Int) := by omega
      clear R4 R3'
      go_wp2_with fail
      go_region
      all_goals go_wp2_with fail
      go_roundw
      case rel => exact ⟨k + 1, by go_num, HLT.out, HA.out, HBq.out, HB.out.drew⟩
      case measure => have := HLT.out; simp [intOf]; omega
    · have hks : k = sX.length := by omega
      subst hks
      have hsum : (l.length : Int) + (l2.length : Int) = (sX.length : Int) := by have := HSL.out; omega
      go_wp2
      go_ret
      exact ⟨rfl, HB.out⟩

set_option maxRecDepth 100000 in
set_option maxHeartbeats 1000000 in
theorem both_long (w : World) (A : Option Addr) (c : Nat) (l : List D) (A2 : Option Addr) (c2 : Nat) (l2 : List D) (hm1 : l.length ≤ maxLen) (hm2 : l2.length ≤ maxLen) (h : 100 < l.length ∨ (¬ 100 < l.length ∧ 100 < l2.length)) :
    Calls Try.prog 7 #[.slice A l.length c, .slice A2 l2.length c2] w fun e w' => e = .returned (.bool true) ∧ Below w.heap.size w w' := by
  unfold maxLen at hm1 hm2
  rcases h with h | ⟨h1, h⟩
  · have g1 : decide ((100 : Int) < (l.length : Int)) = true := decide_eq_true (by omega)
    go_enter Try.func7, Try.ntmps7
    go_wp2_with fail
    refine (awake_any _).mono ?_
    rintro e w1 ⟨rfl, hb1⟩
    go_wp2_with fail
    refine (awake_any _).mono ?_
    rintro e w2 ⟨rfl, hb2⟩
    go_wp2
    go_ret
    exact ⟨rfl, hb1.trans (hb2.mono hb1.size)⟩

  · have g1 : decide ((100 : Int) < (l.length : Int)) = false := decide_eq_false (by omega)
    have g2 : decide ((100 : Int) < (l2.length : Int)) = true := decide_eq_true (by omega)
    go_enter Try.func7, Try.ntmps7
    go_wp2_with fail
    refine (awake_any _).mono ?_
    rintro e w1 ⟨rfl, hb1⟩
    go_wp2_with fail
    refine (awake_any _).mono ?_
    rintro e w2 ⟨rfl, hb2⟩
    go_wp2
    go_ret
    exact ⟨rfl, hb1.trans (hb2.mono hb1.size)⟩

theorem walk_heapBoth (w : World) (A : Option Addr) (c : Nat) (l : List D) (hm : l.length ≤ maxLen) (hr : DReads w w.heap.size A l) (A2 : Option Addr) (c2 : Nat) (l2 : List D) (hm2 : l2.length ≤ maxLen) (hr2 : DReads w w.heap.size A2 l2) :
    Calls Try.prog 7 #[.slice A l.length c, .slice A2 l2.length c2] w fun e w' => e = .returned (.bool true) ∧ Below w.heap.size w w' := by
  by_cases h : 100 < l.length ∨ (¬ 100 < l.length ∧ 100 < l2.length)
  · exact both_long w A c l A2 c2 l2 hm hm2 h
  · exact both_run w A c l hr A2 c2 l2 hr2 (by omega) (by omega)

set_option maxRecDepth 100000 in
theorem heapBoth_lifted (os : Os) (started : os.Started) (H : Type) (enc : TypeId × Value → H) :
    ReturnsInHanded {} Try.checked os 7 .any (Rows.heapBothSpec.pre6 enc Try.prog Try.f7 Rows.heapBothRow.domain false) (Rows.heapBothSpec.post enc Try.prog Try.f7 false true false false) := by
  refine returnsInHanded_of_change (C := Try.checked) own started (by kernel_rfl) Try.func7
    (ChangeSpec.witness6 (enc := enc) (C := Try.checked) false ⟨#[], #[.slice none 0 0, .slice none 0 0], []⟩ 8 (by kernel_rfl) (by kernel_rfl) (by kernel_rfl) (by kernel_rfl)) ?_
  intro W base args ds gs before hval0 hW hcnd hsz
  have hval : ∀ (j : Nat) t v, Try.f7.params[j]? = some t → args[j]? = some v → Value.okWide Try.prog W .any base t v := hval0
  have hW' := hW
  obtain ⟨p, q, hA0, hV, rfl, hfz, hnd⟩ := hW
  have hA : DataW.TrodAll enc Try.prog W 0 (fun _ => true) true Try.f7.params.toList args.toList ds p := hA0
  rw [Try.params7] at hA hval
  obtain ⟨v0, vs0, d0, ds0, p0, q0, hargs, rfl, rfl, h0, r0⟩ := trodAll_cons hA
  obtain ⟨v1, vs1, d1, ds1, p1, q1, rfl, rfl, rfl, h1, r1⟩ := trodAll_cons r0
  obtain ⟨rfl, rfl, rfl⟩ := trodAll_nil r1
  obtain rfl : args = #[v0, v1] := by cases args; simp_all
  obtain ⟨rfl, rfl⟩ := trodVars_none hV
  have k0 := h0
  have lt0 : ∀ x ∈ p0, x.block < W.heap.size := by obtain ⟨m, hm⟩ := k0; exact DataW.trod_lt m _ _ _ hm
  have k1 := h1
  have lt1 : ∀ x ∈ p1, x.block < W.heap.size := by obtain ⟨m, hm⟩ := k1; exact DataW.trod_lt m _ _ _ hm
  obtain ⟨A0, c0, l0, rfl, hm0, hr0⟩ := open_dues (hval 0 39 v0 rfl rfl) h0
  obtain ⟨A1, c1, l1, rfl, hm1, hr1⟩ := open_dues (hval 1 39 v1 rfl rfl) h1
  clear hA0 hval0
  refine (walk_heapBoth W A0 c0 l0 hm0 hr0 A1 c1 l1 hm1 hr1).mono fun e W' ⟨he, bel⟩ => ?_
  subst he
  exact ⟨_, rfl, _, _, _, [], _, [], hW', trodAll_mk1 (shut_bool Try.underlying4 _), (trodAll_cons_mk (Below.trod laidOut (by kernel_rfl) (of_decide_eq_true (by kernel_rfl)) k0 bel lt0) (trodAll_cons_mk (Below.trod laidOut (by kernel_rfl) (of_decide_eq_true (by kernel_rfl)) k1 bel lt1) trodAll_mk0)), rfl, bel.frame _, fun h => by cases h⟩

theorem heapBoth_holds : Rows.HeapBothSaid :=
  OpenClaim.holds_of_wide 7 Try.f7 rfl rfl rfl rfl rfl rfl rfl ⟨rfl, rfl, rfl, rfl, rfl⟩ rfl rfl rfl rfl rfl (by kernel_rfl) Try.func7 (by kernel_rfl)
    (of_decide_eq_true (by kernel_rfl)) (by unfold Func.isWrapper; first | (rw [if_pos (by decide +kernel)]; kernel_rfl) | (rw [if_neg (by decide +kernel)]; exact ⟨rfl, rfl⟩))
    (fun os started H enc _ => heapBoth_lifted os started H enc)

#print axioms heapBoth_holds
end Go.Proofs.Ytcmbmocineegoaa
