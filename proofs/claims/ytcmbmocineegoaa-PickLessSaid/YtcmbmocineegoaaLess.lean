/-
  Who is picked costs no more than anyone else who can: PickLess answers true at every list of candidates, and writes nothing that was there.
  Conditions: none.
-/
import Derived.Test.YtcmbmocineegoaaCandP
namespace Go.Proofs.Ytcmbmocineegoaa
open Go.ChangeShapes Go.WideShapes Go.ChangeAt Go.RowKit

/-- The least cost of those that can, among the first k. -/
def MinTo (l : List C3) (k : Nat) (b : Bool) (L : Int) : Prop := (b = false ∧ ∀ j, j < k → canC (at3 l j) = false) ∨ (b = true ∧ (∃ j, j < k ∧ canC (at3 l j) = true ∧ (at3 l j).2.1 = L) ∧ ∀ j, j < k → canC (at3 l j) = true → L ≤ (at3 l j).2.1)
theorem MinTo.cannot {l : List C3} {k : Nat} {b : Bool} {L : Int} (h : MinTo l k b L) (hc : canC (at3 l k) = false) : MinTo l (k + 1) b L := by
  rcases h with ⟨hb, ha⟩ | ⟨hb, ⟨j, hj, hc', e⟩, ha⟩
  · refine .inl ⟨hb, fun j hj => ?_⟩
    by_cases ej : j = k
    · rw [ej]; exact hc
    · exact ha j (by omega)
  · refine .inr ⟨hb, ⟨j, by omega, hc', e⟩, fun q hq hcq => ?_⟩
    by_cases ej : q = k
    · rw [ej, hc] at hcq; cases hcq
    · exact ha q (by omega) hcq
theorem MinTo.first {l : List C3} {k : Nat} {L : Int} (h : MinTo l k false L) (hc : canC (at3 l k) = true) : MinTo l (k + 1) true (at3 l k).2.1 := by
  rcases h with ⟨_, ha⟩ | ⟨hb, _⟩
  · refine .inr ⟨rfl, ⟨k, by omega, hc, rfl⟩, fun q hq hcq => ?_⟩
    by_cases ej : q = k
    · rw [ej]; exact Int.le_refl _
    · rw [ha q (by omega)] at hcq; cases hcq
  · cases hb
theorem MinTo.lower {l : List C3} {k : Nat} {L : Int} (h : MinTo l k true L) (hc : canC (at3 l k) = true) (hl : (at3 l k).2.1 < L) : MinTo l (k + 1) true (at3 l k).2.1 := by
  rcases h with ⟨hb, _⟩ | ⟨_, _, ha⟩
  · cases hb
  · refine .inr ⟨rfl, ⟨k, by omega, hc, rfl⟩, fun q hq hcq => ?_⟩
    by_cases ej : q = k
    · rw [ej]; exact Int.le_refl _
    · have := ha q (by omega) hcq; omega
theorem MinTo.keep {l : List C3} {k : Nat} {L : Int} (h : MinTo l k true L) (hl : ¬ (at3 l k).2.1 < L) : MinTo l (k + 1) true L := by
  rcases h with ⟨hb, _⟩ | ⟨_, ⟨j, hj, hc', e⟩, ha⟩
  · cases hb
  · refine .inr ⟨rfl, ⟨j, by omega, hc', e⟩, fun q hq hcq => ?_⟩
    by_cases ej : q = k
    · rw [ej]; omega
    · exact ha q (by omega) hcq
theorem less_law {l : List C3} {s : List D} {b : Bool} {L : Int} (h : MinTo l l.length b L) (hp : s.Perm (keys l)) (hr : Rising s) : decide (0 < s.length) = b ∧ (b = true → ∃ j, j < l.length ∧ (at3 l j).1 = (at_ s 0).2 ∧ (at3 l j).2.1 = L ∧ canC (at3 l j) = true) := by
  rcases h with ⟨rfl, ha⟩ | ⟨rfl, ⟨j, hj, hc, e⟩, ha⟩
  · refine ⟨decide_eq_false (fun h => ?_), fun h => by cases h⟩
    obtain ⟨i, hi, hc, _⟩ := mem_keys.1 (head_mem hp h)
    rw [ha i hi] at hc
    cases hc
  · obtain ⟨h0, h1⟩ := head_le hp hr (mem_keys.2 ⟨j, hj, hc, rfl⟩)
    refine ⟨decide_eq_true h0, fun _ => ?_⟩
    obtain ⟨i, hi, hci, ei⟩ := mem_keys.1 (head_mem hp h0)
    refine ⟨i, hi, by rw [← ei]; rfl, ?_, hci⟩
    have h2 := ha i hi hci
    rw [← ei, less_not] at h1
    unfold key at h1
    simp only at h1
    omega
/-- One with that number, that cost, who can, among the first k. -/
def Fnd (l : List C3) (k : Nat) (n L : Int) : Prop := ∃ j, j < k ∧ (at3 l j).1 = n ∧ (at3 l j).2.1 = L ∧ canC (at3 l j) = true

set_option maxRecDepth 100000 in
set_option maxHeartbeats 2000000 in
theorem less_run (w : World) (A : Option Addr) (c : Nat) (l : List C3) (hr : CReads w w.heap.size A l) (hl : l.length ≤ 60) :
    Calls Try.prog 11 #[.slice A l.length c] w fun e w' => e = .returned (.bool true) ∧ Below w.heap.size w w' := by
  have HR := Lib.hid hr
  have g1 : decide ((60 : Int) < (l.length : Int)) = false := decide_eq_false (by omega)
  clear hr
  go_enter Try.func11, Try.ntmps11
  go_wp2_with fail
  refine (awake22_any _).mono ?_
  rintro e w1 ⟨rfl, hb1⟩
  have B1 := Lib.hid hb1
  clear hb1
  go_wp2_with fail
  refine (of_any w1 A c l ((HR.out.below B1.out).more B1.out.size) (by omega)).mono ?_
  rintro e w2 ⟨v, rfl, hown2, hb2⟩
  obtain ⟨A2, cap, rfl, _, hrd2⟩ := own_creads hown2 rfl
  have HR2 := Lib.hid hrd2
  have B2 := Lib.hid (B1.out.trans (hb2.mono B1.out.size))
  clear hown2 hb2 hrd2
  go_wp2_with fail
  refine (best_any w2 _ cap l HR2.out (by omega)).mono ?_
  rintro e w3 ⟨s, rfl, hp, hri, hb3⟩
  have PE := Lib.hid hp
  have RI := Lib.hid hri
  have B3 := Lib.hid (B2.out.trans (hb3.mono B2.out.size))
  obtain ⟨n1, hn1⟩ : ∃ n, n = (at_ s 0).2 := ⟨_, rfl⟩
  obtain ⟨ok1, hok1⟩ : ∃ b, b = decide (0 < s.length) := ⟨_, rfl⟩
  rw [← hn1, ← hok1]
  have N1 := Lib.hid hn1
  have OK1 := Lib.hid hok1
  clear hp hri hb3 hn1 hok1
  go_wp2_with fail
  go_loopw [5, 6, 7] (fun lv bv iv wr => ∃ (k : Nat) (L : Int) (b : Bool), lv = .int .i64 L ∧ bv = .bool b ∧ iv = .int .i64 k ∧ k ≤ l.length ∧ MinTo l k b L ∧ Below w.heap.size w wr) (fun _ _ iv _ => l.length - (intOf iv).toNat)
  case atStart => exact ⟨0, -1, false, rfl, rfl, rfl, by omega, .inl ⟨rfl, fun j hj => by omega⟩, B3.out⟩
  case round =>
    obtain ⟨k, L, b, rfl, rfl, rfl, hk, hM, hb⟩ := hrel
    have MM := Lib.hid hM
    have BB := Lib.hid hb
    clear hM hb
    by_cases hlt : k < l.length
    · have HLT := Lib.hid hlt
      obtain ⟨ad, rfl, _, _⟩ := HR.out (by omega)
      go_wp2_with fail
      refine (of_any wr (some ad) c l ((HR.out.below BB.out).more BB.out.size) (by omega)).mono ?_
      rintro e w5 ⟨v5, rfl, hown5, hb5⟩
      obtain ⟨g, cap5, rfl, _, hT5⟩ := trow_of_own hown5 rfl (by omega)
      have HX := Lib.hid (creads_cell hT5.reads (Below.refl _ _) hlt)
      have HC := Lib.hid (fun w => can_any (at3 l k) w)
      unfold tv at HC
      have B5 := Lib.hid (BB.out.trans (hb5.mono BB.out.size))
      clear hown5 hb5 hT5
      go_wp2_with (first | refine l_val rfl (run_at_T Try.underlying47 size55 (x := .tmp 31) (y := .tmp 32) (ad := ⟨g, 0, none⟩) (i := k) rfl rfl rfl HLT.out _) ?_ | refine l_val rfl (run_load_triple Try.underlying55 size55 (x := .tmp 33) (d := at3 l k) rfl rfl HX.out) ?_)
      refine (HC.out _).mono ?_
      rintro e w6 ⟨rfl, hb6⟩
      have B6 := Lib.hid (B5.out.trans (hb6.mono B5.out.size))
      have HL := Lib.hid (creads_cell HR.out B6.out hlt)
      clear hb6 hlt
      cases hcan : canC (at3 l k) with
      | false =>
        have NX := Lib.hid (MM.out.cannot hcan)
        clear hcan
        go_wp2_with fail
        go_roundw
        case rel => exact ⟨k + 1, L, b, rfl, rfl, by go_num, HLT.out, NX.out, B6.out⟩
        case measure => have := HLT.out; simp [intOf]; omega
      | true =>
        cases b with
        | false =>
          have NX := Lib.hid (MM.out.first hcan)
          clear hcan
          go_wp2_with (first | refine l_val rfl (run_at_T Try.underlying44 size53 (x := .tmp 48) (y := .tmp 49) (ad := ad) (i := k) rfl rfl rfl HLT.out _) ?_ | refine l_val rfl (run_fld53_1 (x := .tmp 50) rfl rfl _) ?_ | refine l_val rfl (run_load_int (x := .tmp 51) rfl Try.underlying3 rfl HL.out.2.1) ?_)
          go_roundw
          case rel => exact ⟨k + 1, _, true, rfl, rfl, by go_num, HLT.out, NX.out, B6.out⟩
          case measure => have := HLT.out; simp [intOf]; omega
        | true =>
          by_cases hlo : (at3 l k).2.1 < L
          · have NX := Lib.hid (MM.out.lower hcan hlo)
            have hd : decide ((at3 l k).2.1 < L) = true := decide_eq_true hlo
            clear hcan hlo
            go_wp2_with (first | refine l_val rfl (run_at_T Try.underlying44 size53 (x := .tmp 40) (y := .tmp 41) (ad := ad) (i := k) rfl rfl rfl HLT.out _) ?_ | refine l_val rfl (run_fld53_1 (x := .tmp 42) rfl rfl _) ?_ | refine l_val rfl (run_load_int (x := .tmp 43) rfl Try.underlying3 rfl HL.out.2.1) ?_ | refine l_val rfl (run_at_T Try.underlying44 size53 (x := .tmp 48) (y := .tmp 49) (ad := ad) (i := k) rfl rfl rfl HLT.out _) ?_ | refine l_val rfl (run_fld53_1 (x := .tmp 50) rfl rfl _) ?_ | refine l_val rfl (run_load_int (x := .tmp 51) rfl Try.underlying3 rfl HL.out.2.1) ?_)
            go_roundw
            case rel => exact ⟨k + 1, _, true, rfl, rfl, by go_num, HLT.out, NX.out, B6.out⟩
            case measure => have := HLT.out; simp [intOf]; omega
          · have NX := Lib.hid (MM.out.keep hlo)
            have hd : decide ((at3 l k).2.1 < L) = false := decide_eq_false hlo
            clear hcan hlo
            go_wp2_with (first | refine l_val rfl (run_at_T Try.underlying44 size53 (x := .tmp 40) (y := .tmp 41) (ad := ad) (i := k) rfl rfl rfl HLT.out _) ?_ | refine l_val rfl (run_fld53_1 (x := .tmp 42) rfl rfl _) ?_ | refine l_val rfl (run_load_int (x := .tmp 43) rfl Try.underlying3 rfl HL.out.2.1) ?_)
            go_roundw
            case rel => exact ⟨k + 1, L, true, rfl, rfl, by go_num, HLT.out, NX.out, B6.out⟩
            case measure => have := HLT.out; simp [intOf]; omega
    · have hkl : k = l.length := by omega
      subst hkl
      have LAW := less_law MM.out PE.out RI.out
      rw [← OK1.out, ← N1.out] at LAW
      obtain ⟨rfl, hfnd⟩ := LAW
      have HF := Lib.hid hfnd
      clear hfnd MM hlt
      obtain ⟨U, rfl⟩ : ∃ U, U = wr := ⟨_, rfl⟩
      go_wp2_with fail
      go_loopw [8, 9] (fun fv iv wr => ∃ (k : Nat) (f : Bool), fv = .bool f ∧ iv = .int .i64 k ∧ k ≤ l.length ∧ (f = true ↔ Fnd l k n1 L) ∧ Below w.heap.size w wr) (fun _ iv _ => l.length - (intOf iv).toNat)
      case atStart => exact ⟨0, false, rfl, rfl, by omega, ⟨fun h => (by cases h), fun ⟨j, hj, _⟩ => by omega⟩, BB.out⟩
      case round =>
        obtain ⟨k, f, rfl, rfl, hk, hM, hb⟩ := hrel
        have MM := Lib.hid hM
        have BB := Lib.hid hb
        clear hM hb
        by_cases hlt : k < l.length
        · have HLT := Lib.hid hlt
          obtain ⟨ad, rfl, _, _⟩ := HR.out (by omega)
          have HL := Lib.hid (creads_cell HR.out BB.out hlt)
          have STAY := Lib.hid (show (¬ ((at3 l k).1 = n1 ∧ (at3 l k).2.1 = L ∧ canC (at3 l k) = true)) → (f = true ↔ Fnd l (k + 1) n1 L) from fun hno => by
            rw [MM.out]
            constructor
            · rintro ⟨j, hj, h⟩; exact ⟨j, by omega, h⟩
            · rintro ⟨j, hj, h⟩
              by_cases e : j = k
              · rw [e] at h; exact absurd h hno
              · exact ⟨j, by omega, h⟩)
          cases f with
          | true =>
            have NX := Lib.hid (show true = true ↔ Fnd l (k + 1) n1 L from ⟨fun _ => by obtain ⟨j, hj, h⟩ := MM.out.1 rfl; exact ⟨j, by omega, h⟩, fun _ => rfl⟩)
            clear hlt
            go_wp2_with fail
            go_roundw
            case rel => exact ⟨k + 1, true, rfl, by go_num, HLT.out, NX.out, BB.out⟩
            case measure => have := HLT.out; simp [intOf]; omega
          | false =>
            by_cases e1 : (at3 l k).1 = n1
            · have hb1 : ((at3 l k).1 == n1) = true := beq_iff_eq.2 e1
              by_cases e2 : (at3 l k).2.1 = L
              · have hb2 : ((at3 l k).2.1 == L) = true := beq_iff_eq.2 e2
                have NX := Lib.hid (show canC (at3 l k) = true ↔ Fnd l (k + 1) n1 L from ⟨fun h => ⟨k, by omega, e1, e2, h⟩, fun ⟨j, hj, h1, h2, h3⟩ => by
                  by_cases e : j = k
                  · rw [← e]; exact h3
                  · exact absurd (MM.out.2 ⟨j, by omega, h1, h2, h3⟩) (by simp)⟩)
                have OFF := Lib.hid (of_any U (some ad) c l)
                clear e1 e2 hlt OFF
                go_wp2_with (first | refine l_val rfl (run_at_T Try.underlying44 size53 (x := .tmp 61) (y := .tmp 62) (ad := ad) (i := k) rfl rfl rfl HLT.out _) ?_ | refine l_val rfl (run_fld53_0 (x := .tmp 63) rfl rfl _) ?_ | refine l_val rfl (run_load_int (x := .tmp 64) rfl Try.underlying3 rfl HL.out.1) ?_ | refine l_val rfl (run_at_T Try.underlying44 size53 (x := .tmp 69) (y := .tmp 70) (ad := ad) (i := k) rfl rfl rfl HLT.out _) ?_ | refine l_val rfl (run_fld53_1 (x := .tmp 71) rfl rfl _) ?_ | refine l_val rfl (run_load_int (x := .tmp 72) rfl Try.underlying3 rfl HL.out.2.1) ?_)
                refine (of_any wr (some ad) c l ((HR.out.below BB.out).more BB.out.size) (by omega)).mono ?_
                rintro e w5 ⟨v5, rfl, hown5, hb5⟩
                obtain ⟨g, cap5, rfl, _, hT5⟩ := trow_of_own hown5 rfl (by have := HLT.out; omega)
                have HX := Lib.hid (creads_cell hT5.reads (Below.refl _ _) HLT.out)
                have HC := Lib.hid (fun w => can_any (at3 l k) w)
                unfold tv at HC
                have B5 := Lib.hid (BB.out.trans (hb5.mono BB.out.size))
                clear hown5 hb5 hT5
                go_wp2_with (first | refine l_val rfl (run_at_T Try.underlying47 size55 (x := .tmp 79) (y := .tmp 80) (ad := ⟨g, 0, none⟩) (i := k) rfl rfl rfl HLT.out _) ?_ | refine l_val rfl (run_load_triple Try.underlying55 size55 (x := .tmp 81) (d := at3 l k) rfl rfl HX.out) ?_)
                refine (HC.out _).mono ?_
                rintro e w6 ⟨rfl, hb6⟩
                have B6 := Lib.hid (B5.out.trans (hb6.mono B5.out.size))
                clear hb6
                go_wp2_with fail
                go_roundw
                case rel => exact ⟨k + 1, canC (at3 l k), rfl, by go_num, HLT.out, NX.out, B6.out⟩
                case measure => have := HLT.out; simp [intOf]; omega
              · have hb2 : ((at3 l k).2.1 == L) = false := beq_eq_false_iff_ne.2 e2
                have NX := Lib.hid (STAY.out (fun h => e2 h.2.1))
                clear e1 e2 hlt
                go_wp2_with (first | refine l_val rfl (run_at_T Try.underlying44 size53 (x := .tmp 61) (y := .tmp 62) (ad := ad) (i := k) rfl rfl rfl HLT.out _) ?_ | refine l_val rfl (run_fld53_0 (x := .tmp 63) rfl rfl _) ?_ | refine l_val rfl (run_load_int (x := .tmp 64) rfl Try.underlying3 rfl HL.out.1) ?_ | refine l_val rfl (run_at_T Try.underlying44 size53 (x := .tmp 69) (y := .tmp 70) (ad := ad) (i := k) rfl rfl rfl HLT.out _) ?_ | refine l_val rfl (run_fld53_1 (x := .tmp 71) rfl rfl _) ?_ | refine l_val rfl (run_load_int (x := .tmp 72) rfl Try.underlying3 rfl HL.out.2.1) ?_)
                go_roundw
                case rel => exact ⟨k + 1, false, rfl, by go_num, HLT.out, NX.out, BB.out⟩
                case measure => have := HLT.out; simp [intOf]; omega
            · have hb1 : ((at3 l k).1 == n1) = false := beq_eq_false_iff_ne.2 e1
              have NX := Lib.hid (STAY.out (fun h => e1 h.1))
              clear e1 hlt
              go_wp2_with (first | refine l_val rfl (run_at_T Try.underlying44 size53 (x := .tmp 61) (y := .tmp 62) (ad := ad) (i := k) rfl rfl rfl HLT.out _) ?_ | refine l_val rfl (run_fld53_0 (x := .tmp 63) rfl rfl _) ?_ | refine l_val rfl (run_load_int (x := .tmp 64) rfl Try.underlying3 rfl HL.out.1) ?_)
              go_roundw
              case rel => exact ⟨k + 1, false, rfl, by go_num, HLT.out, NX.out, BB.out⟩
              case measure => have := HLT.out; simp [intOf]; omega
        · have hkl : k = l.length := by omega
          subst hkl
          have HFN := Lib.hid (show ok1 = true → f = true from fun h => MM.out.2 (HF.out h))
          clear MM hlt
          cases ok1 with
          | true =>
            obtain rfl : f = true := HFN.out rfl
            go_wp2_with fail
            go_ret
            exact ⟨rfl, BB.out⟩
          | false =>
            go_wp2_with fail
            go_ret
            exact ⟨rfl, BB.out⟩

set_option maxRecDepth 100000 in
set_option maxHeartbeats 1000000 in
theorem less_long (w : World) (A : Option Addr) (c n : Nat)  (hn : n ≤ maxLen) (h : 60 < n) :
    Calls Try.prog 11 #[.slice A n c] w fun e w' => e = .returned (.bool true) ∧ Below w.heap.size w w' := by
  unfold maxLen at hn
  have g1 : decide ((60 : Int) < (n : Int)) = true := decide_eq_true (by omega)
  go_enter Try.func11, Try.ntmps11
  go_wp2_with fail
  refine (awake22_any _).mono ?_
  rintro e w1 ⟨rfl, hb1⟩
  go_wp2_with fail
  refine (awake22_any _).mono ?_
  rintro e w2 ⟨rfl, hb2⟩
  go_wp2
  go_ret
  exact ⟨rfl, (hb1.trans (hb2.mono hb1.size))⟩

theorem walk_pickLess (w : World) (A : Option Addr) (c : Nat) (l : List C3) (hm : l.length ≤ maxLen) (hr : CReads w w.heap.size A l) (_hwf : ∀ j, j < l.length → -9223372036854775808 ≤ (at3 l j).2.2) :
    Calls Try.prog 11 #[.slice A l.length c] w fun e w' => e = .returned (.bool true) ∧ Below w.heap.size w w' := by
  by_cases h : 60 < l.length
  · exact less_long w A c _ hm h
  · exact less_run w A c l hr (by omega)

set_option maxRecDepth 100000 in
theorem pickLess_lifted (os : Os) (started : os.Started) (H : Type) (enc : TypeId × Value → H) :
    ReturnsInHanded {} Try.checked os 11 .any (Rows.pickLessSpec.pre6 enc Try.prog Try.f11 Rows.pickLessRow.domain false) (Rows.pickLessSpec.post enc Try.prog Try.f11 false true false false) := by
  refine returnsInHanded_of_change (C := Try.checked) own started (by kernel_rfl) Try.func11
    (ChangeSpec.witness6 (enc := enc) (C := Try.checked) false ⟨#[], #[.slice none 0 0], []⟩ 8 (by kernel_rfl) (by kernel_rfl) (by kernel_rfl) (by kernel_rfl)) ?_
  intro W base args ds gs before hval0 hW hcnd hsz
  have hval : ∀ (j : Nat) t v, Try.f11.params[j]? = some t → args[j]? = some v → Value.okWide Try.prog W .any base t v := hval0
  have hW' := hW
  obtain ⟨p, q, hA0, hV, rfl, hfz, hnd⟩ := hW
  have hA : DataW.TrodAll enc Try.prog W 0 (fun _ => true) true Try.f11.params.toList args.toList ds p := hA0
  rw [Try.params11] at hA hval
  obtain ⟨v0, vs0, d0, ds0, p0, q0, hargs, rfl, rfl, h0, r0⟩ := trodAll_cons hA
  obtain ⟨rfl, rfl, rfl⟩ := trodAll_nil r0
  obtain rfl : args = #[v0] := by cases args; simp_all
  obtain ⟨rfl, rfl⟩ := trodVars_none hV
  have k0 := h0
  have lt0 : ∀ x ∈ p0, x.block < W.heap.size := by obtain ⟨m, hm⟩ := k0; exact DataW.trod_lt m _ _ _ hm
  obtain ⟨A0, c0, l0, rfl, hm0, hr0, hw0⟩ := open_cands (hval 0 44 v0 rfl rfl) h0
  clear hA0 hval0
  refine (walk_pickLess W A0 c0 l0 hm0 hr0 hw0).mono fun e W' ⟨he, bel⟩ => ?_
  subst he
  exact ⟨_, rfl, _, _, _, [], _, [], hW', trodAll_mk1 (shut_bool Try.underlying4 _), (trodAll_cons_mk (Below.trod laidOut (by kernel_rfl) (of_decide_eq_true (by kernel_rfl)) k0 bel lt0) trodAll_mk0), rfl, bel.frame _, fun h => by cases h⟩

theorem pickLess_holds : Rows.PickLessSaid :=
  OpenClaim.holds_of_wide 11 Try.f11 rfl rfl rfl rfl rfl rfl rfl ⟨rfl, rfl, rfl, rfl, rfl⟩ rfl rfl rfl rfl rfl (by kernel_rfl) Try.func11 (by kernel_rfl)
    (of_decide_eq_true (by kernel_rfl)) (by unfold Func.isWrapper; first | (rw [if_pos (by decide +kernel)]; kernel_rfl) | (rw [if_neg (by decide +kernel)]; exact ⟨rfl, rfl⟩))
    (fun os started H enc _ => pickLess_lifted os started H enc)

#print axioms pickLess_holds
end Go.Proofs.Ytcmbmocineegoaa
