/-
  What sink does: the heap stands in its order again.
  Conditions: but for the first the heap stands in its order.
-/
import Derived.Test.YtcmbmocineegoaaWalkC
namespace Go.Proofs.Ytcmbmocineegoaa
open Go.ChangeShapes Go.WideShapes Go.RowKit

theorem child {i c c1 c2 : Nat} (h1 : c1 = 2 * i + 1) (h2 : c2 = 2 * i + 2) (h : (c - 1) / 2 = i) (h0 : 0 < c) : c = c1 ∨ c = c2 := by omega
set_option maxRecDepth 100000 in
set_option maxHeartbeats 1000000 in
theorem sink_any (w : World) (h g cap : Nat) (l : List D) (HO : HObj w h (.slice (some ⟨g, 0, none⟩) l.length cap)) (HR : HRow w g cap l) (HD : HDown l 0) (hn : l.length ≤ 1000000) :
    Calls Try.prog 30 #[.pointer (some ⟨h, 0, none⟩)] w fun e w' => ∃ l' : List D, e = .returned (.tuple #[]) ∧ HObj w' h (.slice (some ⟨g, 0, none⟩) l'.length cap) ∧ HRow w' g cap l' ∧ l'.Perm l ∧ HAll l' ∧ Kept (· = g) w w' := by
  have HO' := Lib.hid HO
  have HR' := Lib.hid HR
  have HD' := Lib.hid HD
  clear HO HR HD
  go_enter Try.func30, Try.ntmps30
  go_wp2_with fail
  go_loopw [2] (fun iv wr => ∃ (i : Nat) (l' : List D), iv = .int .i64 i ∧ (i < l'.length ∨ i = 0) ∧ l'.length = l.length ∧ HDown l' i ∧ l'.Perm l ∧ HObj wr h (.slice (some ⟨g, 0, none⟩) l'.length cap) ∧ HRow wr g cap l' ∧ Kept (· = g) w wr) (fun iv _ => l.length - (intOf iv).toNat)
  case atStart => exact ⟨0, l, rfl, .inr rfl, rfl, HD'.out, List.Perm.refl _, HO'.out, HR'.out, Kept.refl _ _⟩
  case round =>
    obtain ⟨i, l', rfl, hi, hl', hdn, hperm, hO, hR, hK⟩ := hrel
    have hnl : l'.length ≤ 1000000 := by rw [hl']; exact hn
    have DN := Lib.hid hdn
    have PE := Lib.hid hperm
    have LL := Lib.hid hl'
    have O2 := Lib.hid hO
    have R2 := Lib.hid hR
    have K2 := Lib.hid hK
    have hC := hb_cell hO
    clear hdn hperm hl' hO hR hK
    by_cases hA : 2 * i + 1 < l'.length
    · have hA' : 2 * (i : Int) + 1 < (l'.length : Int) := by omega
      obtain ⟨c1, hc1⟩ : ∃ c, c = 2 * i + 1 := ⟨_, rfl⟩
      obtain ⟨c2, hc2⟩ : ∃ c, c = 2 * i + 2 := ⟨_, rfl⟩
      have HK1 := Lib.hid (show 2 * (i : Int) + 1 = (c1 : Int) by omega)
      have HK2 := Lib.hid (show (c1 : Int) + 1 = (c2 : Int) by omega)
      have hc1l : c1 < l'.length := by omega
      have HC1 := Lib.hid hc1
      have HC2 := Lib.hid hc2
      by_cases hBB : 2 * i + 2 < l'.length
      · have hB' : 2 * (i : Int) + 1 + 1 < (l'.length : Int) := by omega
        have hc2l : c2 < l'.length := by omega
        clear hc1 hc2
        have hl1 := hless_any wr h g cap l' O2.out R2.out c2 c1 hc2l hc1l
        cases hb1 : less (at_ l' c2) (at_ l' c1) with
        | false =>
          have HB1 := Lib.hid hb1
          rw [hb1] at hl1
          have HL1 := Lib.hid hl1
          clear hl1 hb1
          go_wp2_with fail
          rw [HK1.out, HK2.out]
          refine HL1.out.mono ?_
          rintro e w4 ⟨rfl, hb⟩
          have K4 := Lib.hid (K2.out.trans (Kept.of_below hb (fun _ => False)) (U := (· = g)) (fun _ _ hx => hx) (fun _ _ hx => hx.elim))
          have O4 := Lib.hid (show HObj w4 h _ from (hb.block h (hb_lt O2.out)).trans O2.out)
          have R4 := Lib.hid (R2.out.keep (hb.block g R2.out.lt))
          clear hb
          have HKL := Lib.hid (show c1 < l'.length from hc1l)
          have HIL := Lib.hid (show i < l'.length by have := HKL.out; have := HC1.out; have := HC2.out; omega)
          have HNE := Lib.hid (show i ≠ c1 by have := HC1.out; have := HC2.out; omega)
          have hl2 := hless_any w4 h g cap l' O4.out R4.out c1 i HKL.out HIL.out
          cases hb2 : less (at_ l' c1) (at_ l' i) with
          | false =>
            have HB2 := Lib.hid hb2
            rw [hb2] at hl2
            have HL2 := Lib.hid hl2
            clear hl2 hb2
            go_wp2_with fail
            skip
            refine HL2.out.mono ?_
            rintro e w5 ⟨rfl, hb⟩
            have K5 := Lib.hid (K4.out.trans (Kept.of_below hb (fun _ => False)) (U := (· = g)) (fun _ _ hx => hx) (fun _ _ hx => hx.elim))
            have O5 := Lib.hid (show HObj w5 h _ from (hb.block h (hb_lt O4.out)).trans O4.out)
            have R5 := Lib.hid (R4.out.keep (hb.block g R4.out.lt))
            clear hb
            go_wp2
            refine bodyPost_ret (results_none rfl _ _ _) rfl ?_
            exact ⟨l', rfl, O5.out, R5.out, PE.out, down_end DN.out (fun c hc c0 cl => by rcases child (c1 := c1) (c2 := c2) HC1.out HC2.out hc c0 with e | e <;> rw [e] <;> first | exact HB2.out | exact le_trans' HB2.out HB1.out), K5.out⟩
          | true =>
            have HB2 := Lib.hid hb2
            rw [hb2] at hl2
            have HL2 := Lib.hid hl2
            clear hl2 hb2
            go_wp2_with fail
            skip
            refine HL2.out.mono ?_
            rintro e w5 ⟨rfl, hb⟩
            have K5 := Lib.hid (K4.out.trans (Kept.of_below hb (fun _ => False)) (U := (· = g)) (fun _ _ hx => hx) (fun _ _ hx => hx.elim))
            have O5 := Lib.hid (show HObj w5 h _ from (hb.block h (hb_lt O4.out)).trans O4.out)
            have R5 := Lib.hid (R4.out.keep (hb.block g R4.out.lt))
            clear hb
            go_wp2_with fail
            refine (swap_any w5 h g cap l' O5.out R5.out i c1 HIL.out HKL.out HNE.out).mono ?_
            rintro e w6 ⟨rfl, hr6, hk6, hs6⟩
            have K6 := Lib.hid (K5.out.trans hk6 (U := (· = g)) (fun _ _ hx => hx) (fun _ _ hx => hx))
            have O6 := Lib.hid (show HObj w6 h (.slice (some ⟨g, 0, none⟩) (swapL l' i c1).length cap) by
              rw [swap_length]
              exact (hk6.block h (hb_lt O5.out) (hb_ne O5.out R5.out)).trans O5.out)
            have R6 := Lib.hid hr6
            clear hr6 hk6 hs6
            go_wp2_with fail
            go_roundw
            case rel => exact ⟨c1, swapL l' i c1, rfl, .inl (by rw [swap_length]; exact HKL.out), by rw [swap_length]; exact LL.out, down_step DN.out (by have := HC1.out; have := HC2.out; omega) HKL.out HB2.out (fun c hc c0 cl => by rcases child (c1 := c1) (c2 := c2) HC1.out HC2.out hc c0 with e | e <;> rw [e] <;> first | exact less_irrefl _ | exact HB1.out), (swap_perm HIL.out HKL.out).trans PE.out, O6.out, R6.out, K6.out⟩
            case measure => simp [intOf]; have := HKL.out; have := LL.out; have := HC1.out; have := HC2.out; omega

        | true =>
          have HB1 := Lib.hid hb1
          rw [hb1] at hl1
          have HL1 := Lib.hid hl1
          clear hl1 hb1
          go_wp2_with fail
          rw [HK1.out, HK2.out]
          refine HL1.out.mono ?_
          rintro e w4 ⟨rfl, hb⟩
          have K4 := Lib.hid (K2.out.trans (Kept.of_below hb (fun _ => False)) (U := (· = g)) (fun _ _ hx => hx) (fun _ _ hx => hx.elim))
          have O4 := Lib.hid (show HObj w4 h _ from (hb.block h (hb_lt O2.out)).trans O2.out)
          have R4 := Lib.hid (R2.out.keep (hb.block g R2.out.lt))
          clear hb
          have HKL := Lib.hid (show c2 < l'.length from hc2l)
          have HIL := Lib.hid (show i < l'.length by have := HKL.out; have := HC1.out; have := HC2.out; omega)
          have HNE := Lib.hid (show i ≠ c2 by have := HC1.out; have := HC2.out; omega)
          have hl2 := hless_any w4 h g cap l' O4.out R4.out c2 i HKL.out HIL.out
          cases hb2 : less (at_ l' c2) (at_ l' i) with
          | false =>
            have HB2 := Lib.hid hb2
            rw [hb2] at hl2
            have HL2 := Lib.hid hl2
            clear hl2 hb2
            go_wp2_with fail
            rw [HK2.out]
            refine HL2.out.mono ?_
            rintro e w5 ⟨rfl, hb⟩
            have K5 := Lib.hid (K4.out.trans (Kept.of_below hb (fun _ => False)) (U := (· = g)) (fun _ _ hx => hx) (fun _ _ hx => hx.elim))
            have O5 := Lib.hid (show HObj w5 h _ from (hb.block h (hb_lt O4.out)).trans O4.out)
            have R5 := Lib.hid (R4.out.keep (hb.block g R4.out.lt))
            clear hb
            go_wp2
            refine bodyPost_ret (results_none rfl _ _ _) rfl ?_
            exact ⟨l', rfl, O5.out, R5.out, PE.out, down_end DN.out (fun c hc c0 cl => by rcases child (c1 := c1) (c2 := c2) HC1.out HC2.out hc c0 with e | e <;> rw [e] <;> first | exact HB2.out | exact le_trans' HB2.out (less_asymm HB1.out)), K5.out⟩
          | true =>
            have HB2 := Lib.hid hb2
            rw [hb2] at hl2
            have HL2 := Lib.hid hl2
            clear hl2 hb2
            go_wp2_with fail
            rw [HK2.out]
            refine HL2.out.mono ?_
            rintro e w5 ⟨rfl, hb⟩
            have K5 := Lib.hid (K4.out.trans (Kept.of_below hb (fun _ => False)) (U := (· = g)) (fun _ _ hx => hx) (fun _ _ hx => hx.elim))
            have O5 := Lib.hid (show HObj w5 h _ from (hb.block h (hb_lt O4.out)).trans O4.out)
            have R5 := Lib.hid (R4.out.keep (hb.block g R4.out.lt))
            clear hb
            go_wp2_with fail
            refine (swap_any w5 h g cap l' O5.out R5.out i c2 HIL.out HKL.out HNE.out).mono ?_
            rintro e w6 ⟨rfl, hr6, hk6, hs6⟩
            have K6 := Lib.hid (K5.out.trans hk6 (U := (· = g)) (fun _ _ hx => hx) (fun _ _ hx => hx))
            have O6 := Lib.hid (show HObj w6 h (.slice (some ⟨g, 0, none⟩) (swapL l' i c2).length cap) by
              rw [swap_length]
              exact (hk6.block h (hb_lt O5.out) (hb_ne O5.out R5.out)).trans O5.out)
            have R6 := Lib.hid hr6
            clear hr6 hk6 hs6
            go_wp2_with fail
            go_roundw
            case rel => exact ⟨c2, swapL l' i c2, rfl, .inl (by rw [swap_length]; exact HKL.out), by rw [swap_length]; exact LL.out, down_step DN.out (by have := HC1.out; have := HC2.out; omega) HKL.out HB2.out (fun c hc c0 cl => by rcases child (c1 := c1) (c2 := c2) HC1.out HC2.out hc c0 with e | e <;> rw [e] <;> first | exact less_irrefl _ | exact less_asymm HB1.out), (swap_perm HIL.out HKL.out).trans PE.out, O6.out, R6.out, K6.out⟩
            case measure => simp [intOf]; have := HKL.out; have := LL.out; have := HC1.out; have := HC2.out; omega

      · have hB' : ¬ 2 * (i : Int) + 1 + 1 < (l'.length : Int) := by omega
        clear hc1 hc2
        have HKL := Lib.hid (show c1 < l'.length from hc1l)
        have HIL := Lib.hid (show i < l'.length by have := HKL.out; have := HC1.out; have := HC2.out; omega)
        have HNE := Lib.hid (show i ≠ c1 by have := HC1.out; have := HC2.out; omega)
        have hl2 := hless_any wr h g cap l' O2.out R2.out c1 i HKL.out HIL.out
        cases hb2 : less (at_ l' c1) (at_ l' i) with
        | false =>
          have HB2 := Lib.hid hb2
          rw [hb2] at hl2
          have HL2 := Lib.hid hl2
          clear hl2 hb2
          go_wp2_with fail
          rw [HK1.out]
          refine HL2.out.mono ?_
          rintro e w5 ⟨rfl, hb⟩
          have K5 := Lib.hid (K2.out.trans (Kept.of_below hb (fun _ => False)) (U := (· = g)) (fun _ _ hx => hx) (fun _ _ hx => hx.elim))
          have O5 := Lib.hid (show HObj w5 h _ from (hb.block h (hb_lt O2.out)).trans O2.out)
          have R5 := Lib.hid (R2.out.keep (hb.block g R2.out.lt))
          clear hb
          go_wp2
          refine bodyPost_ret (results_none rfl _ _ _) rfl ?_
          exact ⟨l', rfl, O5.out, R5.out, PE.out, down_end DN.out (fun c hc c0 cl => by rcases child (c1 := c1) (c2 := c2) HC1.out HC2.out hc c0 with e | e <;> first | (rw [e]; exact HB2.out) | (exfalso; have := HC2.out; omega)), K5.out⟩
        | true =>
          have HB2 := Lib.hid hb2
          rw [hb2] at hl2
          have HL2 := Lib.hid hl2
          clear hl2 hb2
          go_wp2_with fail
          rw [HK1.out]
          refine HL2.out.mono ?_
          rintro e w5 ⟨rfl, hb⟩
          have K5 := Lib.hid (K2.out.trans (Kept.of_below hb (fun _ => False)) (U := (· = g)) (fun _ _ hx => hx) (fun _ _ hx => hx.elim))
          have O5 := Lib.hid (show HObj w5 h _ from (hb.block h (hb_lt O2.out)).trans O2.out)
          have R5 := Lib.hid (R2.out.keep (hb.block g R2.out.lt))
          clear hb
          go_wp2_with fail
          refine (swap_any w5 h g cap l' O5.out R5.out i c1 HIL.out HKL.out HNE.out).mono ?_
          rintro e w6 ⟨rfl, hr6, hk6, hs6⟩
          have K6 := Lib.hid (K5.out.trans hk6 (U := (· = g)) (fun _ _ hx => hx) (fun _ _ hx => hx))
          have O6 := Lib.hid (show HObj w6 h (.slice (some ⟨g, 0, none⟩) (swapL l' i c1).length cap) by
            rw [swap_length]
            exact (hk6.block h (hb_lt O5.out) (hb_ne O5.out R5.out)).trans O5.out)
          have R6 := Lib.hid hr6
          clear hr6 hk6 hs6
          go_wp2_with fail
          go_roundw
          case rel => exact ⟨c1, swapL l' i c1, rfl, .inl (by rw [swap_length]; exact HKL.out), by rw [swap_length]; exact LL.out, down_step DN.out (by have := HC1.out; have := HC2.out; omega) HKL.out HB2.out (fun c hc c0 cl => by rcases child (c1 := c1) (c2 := c2) HC1.out HC2.out hc c0 with e | e <;> first | (rw [e]; exact less_irrefl _) | (exfalso; have := HC2.out; omega)), (swap_perm HIL.out HKL.out).trans PE.out, O6.out, R6.out, K6.out⟩
          case measure => simp [intOf]; have := HKL.out; have := LL.out; have := HC1.out; have := HC2.out; omega

    · have hA' : ¬ 2 * (i : Int) + 1 < (l'.length : Int) := by omega
      go_wp2
      refine bodyPost_ret (results_none rfl _ _ _) rfl ?_
      exact ⟨rfl, l', O2.out, R2.out, PE.out, down_end DN.out (fun c hc c0 cl => by omega), K2.out⟩

end Go.Proofs.Ytcmbmocineegoaa
