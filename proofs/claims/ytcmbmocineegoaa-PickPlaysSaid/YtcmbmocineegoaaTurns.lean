/-
  A list sorted is the same, whichever way round it stood: HeapTurns answers true at every list, and writes nothing that was there.
  Conditions: none.
-/
import Derived.Test.YtcmbmocineegoaaOpen
namespace Go.Proofs.Ytcmbmocineegoaa
open Go.ChangeShapes Go.WideShapes Go.ChangeAt Go.RowKit

theorem DReads.more {w : World} {B B' : Nat} {A : Option Addr} {l : List D} (h : DReads w B A l) (hB : B ≤ B') : DReads w B' A l := fun h0 => by
  obtain ⟨ad, e, hlt, hc⟩ := h h0
  exact ⟨ad, e, Nat.lt_of_lt_of_le hlt hB, hc⟩
theorem DReads.own {w : World} {B : Nat} {v : Value} {l : List D} (h : w.ownsRow B 30 2 v l.length (dcells l)) : ∃ (A : Option Addr) (c : Nat), v = .slice A l.length c ∧ DReads w w.heap.size A l := by
  obtain ⟨a, c, rfl⟩ := own_slice h
  exact ⟨a, c, rfl, DReads.of_own h rfl⟩
theorem perm_drop {l m : List D} {q : Nat} (hq : q < l.length) (h : m.Perm (l.drop (q + 1))) : (m ++ [at_ l q]).Perm (l.drop q) := by
  have e : l.drop q = at_ l q :: l.drop (q + 1) := by
    rw [List.drop_eq_getElem_cons hq]
    have := at_some hq
    rw [List.getElem?_eq_getElem hq] at this
    rw [Option.some.inj this]
  rw [e]
  exact List.perm_append_comm.trans (h.cons _)

set_option maxRecDepth 100000 in
set_option maxHeartbeats 1000000 in
theorem walk_heapTurns (w : World) (A : Option Addr) (c : Nat) (l : List D) (hm : l.length ≤ maxLen) (hr : DReads w w.heap.size A l) :
    Calls Try.prog 8 #[.slice A l.length c] w fun e w' => e = .returned (.bool true) ∧ Below w.heap.size w w' := by
  unfold maxLen at hm
  by_cases hl : 200 < l.length
  · go_enter Try.func8, Try.ntmps8
    go_wp2_with fail
    refine (awake_any _).mono ?_
    rintro e w1 ⟨rfl, hb1⟩
    go_wp2_with fail
    refine (awake_any _).mono ?_
    rintro e w2 ⟨rfl, hb2⟩
    go_wp2
    go_ret
    exact ⟨rfl, hb1.trans (hb2.mono hb1.size)⟩
  · obtain ⟨i0, hi0, hz0, hz1, hz2⟩ := info_parts info30
    have HR := Lib.hid hr
    clear hr
    go_enter Try.func8, Try.ntmps8
    go_wp2_with fail
    refine (awake_any _).mono ?_
    rintro e w1 ⟨rfl, hb1⟩
    have B1 := Lib.hid hb1
    clear hb1
    go_wp2_with fail
    go_loopw [3, 4] (fun o i wr => ∃ (r : Nat) (lm : List D), i = .int .i64 ((r : Int) - 1) ∧ r ≤ l.length ∧ wr.ownsRow w.heap.size 30 2 o lm.length (dcells lm) ∧ lm.Perm (l.drop r) ∧ Below w.heap.size w wr) (fun _ i _ => (intOf i + 1).toNat)
    case atStart => exact ⟨l.length, [], rfl, Nat.le_refl _, ⟨rfl, .inl ⟨rfl, rfl⟩⟩, by simp, B1.out⟩
    case round =>
      obtain ⟨r, lm, hi, hrl, hO, hp, hb⟩ := hrel
      have O := Lib.hid hO
      have PE := Lib.hid hp
      have B := Lib.hid hb
      clear hO hp hb
      cases r with
      | succ q =>
        have e : (((q + 1 : Nat) : Int) - 1) = (q : Int) := by omega
        rw [e] at hi
        subst hi
        clear e
        obtain ⟨ad, rfl, hadB, hcell⟩ := (HR.out.below B.out) (by omega)
        have hlt : q < l.length := by omega
        obtain ⟨hx1, hx2⟩ := hcell q hlt
        have HX1 := Lib.hid hx1
        have HX2 := Lib.hid hx2
        have hlm : lm.length ≤ 1000 := by have := PE.out.length_eq; rw [List.length_drop] at this; omega
        have OA := Lib.hid (O.out.alloc (.cells #[.int .i64 (at_ l q).1, .int .i64 (at_ l q).2] 30))
        have PK := Lib.hid (perm_drop hlt PE.out)
        clear hcell hx1 hx2
        go_wp2_with (first | (refine l_val rfl (run_at_dueA (x := .tmp 24) (y := .tmp 25) (ad := ad) (i := q) rfl rfl rfl hlt _) ?_) | (refine l_val rfl (run_load_dueA (x := .tmp 26) (d := at_ l q) rfl rfl HX1.out HX2.out) ?_) | (at_builtin; refine wpList_append_lies _ rfl (.tmp 23) (.tmp 28) _ rfl w.heap.size 30 i0 _ 2 16 Try.underlying39 hi0 hz0 hz1 hz2 rfl (by omega) u3 lm.length (dcells lm) rfl OA.out ⟨wr.heap.size, 0, none⟩ 1 1 [.int .i64 (at_ l q).1, .int .i64 (at_ l q).2] rfl rfl (World.news_of_block (cs := #[.int .i64 (at_ l q).1, .int .i64 (at_ l q).2]) (t := 30) (fr := (0, 0)) (heap_alloc_new wr _)) (by simp [Value.oneCell']) (by omega) (by unfold maxLen; omega) (by omega) (by have := B.out.size; simp; omega) (wr.heap.size + 1) (by simp) ?_))
        intro gg cap w6 hown6 hgrow6 hat6 hlt6
        have O6 := Lib.hid (show w6.ownsRow w.heap.size 30 2 (.slice (some ⟨gg, 0, none⟩) (lm.length + 1) cap) (lm ++ [at_ l q]).length (dcells (lm ++ [at_ l q])) by
          rw [dcells_append, List.length_append, List.length_singleton]; exact hown6)
        have B6 := Lib.hid ((B.out.alloc B.out.size (.cells #[.int .i64 (at_ l q).1, .int .i64 (at_ l q).2] 30)).grown hgrow6 (by have := B.out.size; simp; omega) (fun k hk => (own_lt O.out hk).2))
        clear hown6 hgrow6 hat6 hlt6
        go_wp2_with fail
        go_roundw
        case rel => exact ⟨q, lm ++ [at_ l q], rfl, by omega, O6.out, PK.out, B6.out⟩
        case measure => simp [intOf]
      | zero =>
        have e : (((0 : Nat) : Int) - 1) = -1 := by omega
        rw [e] at hi
        subst hi
        clear e
        rw [List.drop_zero] at PE
        obtain ⟨A2, c2, rfl, hr2⟩ := DReads.own O.out
        have hlm := Lib.hid (show lm.length = l.length from PE.out.length_eq)
        have HR2 := Lib.hid hr2
        clear hr2
        go_wp2_with fail
        refine (sorted_any wr A c l ((HR.out.below B.out).more B.out.size) (by omega)).mono ?_
        rintro e w3 ⟨v3, s3, rfl, hO3, hp3, hri3, hb3⟩
        have O3 := Lib.hid hO3
        have P3 := Lib.hid hp3
        have RI3 := Lib.hid hri3
        have B3 := Lib.hid (B.out.trans (hb3.mono B.out.size))
        have HR3 := Lib.hid ((HR2.out.below hb3).more hb3.size)
        clear hO3 hp3 hri3 hb3
        go_wp2_with fail
        refine (sorted_any w3 A2 c2 lm HR3.out (by rw [hlm.out]; omega)).mono ?_
        rintro e w4 ⟨v4, s4, rfl, hO4, hp4, hri4, hb4⟩
        have hss : s3 = s4 := rising_unique RI3.out hri4 (P3.out.trans (PE.out.symm.trans hp4.symm))
        subst hss
        have O4 := Lib.hid (own_base hO4 (Nat.le_refl _))
        have O34 := Lib.hid (own_base (own_row O3.out (fun k hk => hb4.block k (own_lt O3.out hk).1)) B.out.size)
        have B4 := Lib.hid (B3.out.trans (hb4.mono B3.out.size))
        obtain ⟨a3, c3, hv3⟩ := own_slice O3.out
        obtain ⟨a4, c4, hv4⟩ := own_slice O4.out
        subst hv3
        subst hv4
        clear hO4 hp4 hri4 hb4
        have hs3 : s3.length ≤ 1000 := by have := P3.out.length_eq; omega
        have hle : ((s3.length : Int) == (s3.length : Int)) = true := by simp
        go_wp2_with fail
        go_loopw [7] (fun i wr => ∃ k : Nat, i = .int .i64 k ∧ k ≤ s3.length ∧ wr.ownsRow w3.heap.size 30 2 (.slice a4 s3.length c4) s3.length (dcells s3) ∧ wr.ownsRow w.heap.size 30 2 (.slice a3 s3.length c3) s3.length (dcells s3) ∧ Below w.heap.size w wr) (fun i _ => s3.length - (intOf i).toNat)
        case atStart => exact ⟨0, rfl, Nat.zero_le _, O4.out, O34.out, B4.out⟩
        case round =>
          obtain ⟨k, rfl, hk, hA, hBq, hb⟩ := hrel
          have HA := Lib.hid hA
          have HBq := Lib.hid hBq
          have HB := Lib.hid hb
          clear hA hBq hb
          by_cases hlt : k < s3.length
          · obtain ⟨g4, cc4, hv4, _, R4⟩ := row_of_own HA.out rfl (by omega)
            obtain ⟨g3, cc3, hv3, _, R3⟩ := row_of_own HBq.out rfl (by omega)
            obtain rfl : a4 = some ⟨g4, 0, none⟩ := (Value.slice.inj hv4).1
            obtain rfl : a3 = some ⟨g3, 0, none⟩ := (Value.slice.inj hv3).1
            clear hv4 hv3
            have HLT := Lib.hid hlt
            have x1 := R4.c1 hlt
            have x2 := R4.c2 hlt
            have y1 := R3.c1 hlt
            have y2 := R3.c2 hlt
            have k0 : (0 : Int) ≤ (k : Int) := by omega
            have k1 : (k : Int) < (s3.length : Int) := by omega
            clear R4 R3
            go_wp2_with fail
            go_region
            all_goals go_wp2_with fail
            go_roundw
            case rel => exact ⟨k + 1, by go_num, HLT.out, HA.out, HBq.out, HB.out.drew⟩
            case measure => have := HLT.out; simp [intOf]; omega
          · have hks : k = s3.length := by omega
            subst hks
            go_wp2
            go_ret
            exact ⟨rfl, HB.out⟩

set_option maxRecDepth 100000 in
theorem heapTurns_lifted (os : Os) (started : os.Started) (H : Type) (enc : TypeId × Value → H) :
    ReturnsInHanded {} Try.checked os 8 .any (Rows.heapTurnsSpec.pre6 enc Try.prog Try.f8 Rows.heapTurnsRow.domain false) (Rows.heapTurnsSpec.post enc Try.prog Try.f8 false true false false) := by
  refine returnsInHanded_of_change (C := Try.checked) own started (by kernel_rfl) Try.func8
    (ChangeSpec.witness6 (enc := enc) (C := Try.checked) false ⟨#[], #[.slice none 0 0], []⟩ 8 (by kernel_rfl) (by kernel_rfl) (by kernel_rfl) (by kernel_rfl)) ?_
  intro W base args ds gs before hval0 hW hcnd hsz
  have hval : ∀ (j : Nat) t v, Try.f8.params[j]? = some t → args[j]? = some v → Value.okWide Try.prog W .any base t v := hval0
  have hW' := hW
  obtain ⟨p, q, hA0, hV, rfl, hfz, hnd⟩ := hW
  have hA : DataW.TrodAll enc Try.prog W 0 (fun _ => true) true Try.f8.params.toList args.toList ds p := hA0
  rw [Try.params8] at hA hval
  obtain ⟨v0, vs0, d0, ds0, p0, q0, hargs, rfl, rfl, h0, r0⟩ := trodAll_cons hA
  obtain ⟨rfl, rfl, rfl⟩ := trodAll_nil r0
  obtain rfl : args = #[v0] := by cases args; simp_all
  obtain ⟨rfl, rfl⟩ := trodVars_none hV
  have k0 := h0
  have lt0 : ∀ x ∈ p0, x.block < W.heap.size := by obtain ⟨m, hm⟩ := k0; exact DataW.trod_lt m _ _ _ hm
  obtain ⟨A0, c0, l0, rfl, hm0, hr0⟩ := open_dues (hval 0 39 v0 rfl rfl) h0
  clear hA0 hval0
  refine (walk_heapTurns W A0 c0 l0 hm0 hr0).mono fun e W' ⟨he, bel⟩ => ?_
  subst he
  exact ⟨_, rfl, _, _, _, [], _, [], hW', trodAll_mk1 (shut_bool Try.underlying4 _), (trodAll_cons_mk (Below.trod laidOut (by kernel_rfl) (of_decide_eq_true (by kernel_rfl)) k0 bel lt0) trodAll_mk0), rfl, bel.frame _, fun h => by cases h⟩

theorem heapTurns_holds : Rows.HeapTurnsSaid :=
  OpenClaim.holds_of_wide 8 Try.f8 rfl rfl rfl rfl rfl rfl rfl ⟨rfl, rfl, rfl, rfl, rfl⟩ rfl rfl rfl rfl rfl (by kernel_rfl) Try.func8 (by kernel_rfl)
    (of_decide_eq_true (by kernel_rfl)) (by unfold Func.isWrapper; first | (rw [if_pos (by decide +kernel)]; kernel_rfl) | (rw [if_neg (by decide +kernel)]; exact ⟨rfl, rfl⟩))
    (fun os started H enc _ => heapTurns_lifted os started H enc)

#print axioms heapTurns_holds
end Go.Proofs.Ytcmbmocineegoaa
