/-
  What pick.Order and pick.Best answer: those that can, sorted by cost and number; the first.
  Conditions: none.
-/
import Derived.Test.YtcmbmocineegoaaCandD
namespace Go.Proofs.Ytcmbmocineegoaa
open Go.ChangeShapes Go.WideShapes Go.ChangeAt Go.RowKit

def ids (s : List D) : List Value := s.map (fun d => .int .i64 d.2)
theorem ids_length (s : List D) : (ids s).length = s.length * 1 := by unfold ids; simp
theorem ids_at {s : List D} {i : Nat} (h : i < s.length) : (ids s)[i]? = some (.int .i64 (at_ s i).2) := by
  unfold ids; rw [List.getElem?_map, at_some h]; rfl
theorem info3 : (Try.prog.info? 3).map (fun i => (i.zero, i.size, i.bytes)) = some (some (.int .i64 0), 1, 8) := by kernel_rfl
theorem size3 : (Try.prog.info? 3).map (·.size) = some 1 := by kernel_rfl
theorem own_far {w : World} {B B' : Nat} {e e' : TypeId} {s s' n n' : Nat} {v v' : Value} {xs xs' : List Value} (h : w.ownsRow B e s v n xs) (h' : w.ownsRow B' e' s' v' n' xs') (hne : e ≠ e') {k : Nat} (hk : v.ownBlock = some k) : v'.ownBlock ≠ some k := by
  intro hk'
  rcases h.2 with ⟨rfl, _⟩ | ⟨g, cap, cur, rfl, _, h2, _⟩
  · simp [Value.ownBlock] at hk
  · rcases h'.2 with ⟨rfl, _⟩ | ⟨g', cap', cur', rfl, _, h2', _⟩
    · simp [Value.ownBlock] at hk'
    · have e1 : g = k := by simpa [Value.ownBlock] using hk
      have e2 : g' = k := by simpa [Value.ownBlock] using hk'
      subst e1
      subst e2
      rw [h2] at h2'
      injection h2' with h2'
      injection h2' with _ ht _
      exact hne ht
theorem reads_news {w : World} {g : Nat} {t : TypeId} {size : Nat} {xs : List Value} (h : w.heap[g]? = some (.cells xs.toArray t (0, 0))) (hs : xs.length = size) : Reads w w.heap.size size (some ⟨g, 0, none⟩) 1 xs := by
  refine ⟨by omega, fun _ => ⟨_, rfl, row_lt h, fun j u hj => ?_⟩⟩
  rw [addr_add, cell_of_row w g j _ t (0, 0) h, ← hj]
  simp

set_option maxRecDepth 100000 in
set_option maxHeartbeats 2000000 in
theorem order_any (w : World) (A : Option Addr) (c : Nat) (l : List C3) (hr : CReads w w.heap.size A l) (hn : l.length ≤ 200) :
    Calls Try.prog 25 #[.slice A l.length c] w fun e w' => ∃ (v : Value) (s : List D), e = .returned v ∧ w'.ownsRow w.heap.size 3 1 v s.length (ids s) ∧ s.Perm (keys l) ∧ Rising s ∧ Below w.heap.size w w' := by
  obtain ⟨i0, hi0, hz0, hz1, hz2⟩ := info_parts info30
  obtain ⟨j0, hj0, jz0, jz1, jz2⟩ := info_parts info3
  have HR := Lib.hid hr
  clear hr
  go_enter Try.func25, Try.ntmps25
  go_wp2_with fail
  refine (clone_any w A c l HR.out (by omega)).mono ?_
  rintro e w1 ⟨v1, rfl, hown1, hb1⟩
  have O1 := Lib.hid hown1
  have B1 := Lib.hid hb1
  clear hown1 hb1
  go_wp2_with fail
  refine (delete_own w1 w.heap.size v1 l O1.out (by omega)).mono ?_
  rintro e w2 ⟨v2, rfl, hown2, hK2⟩
  have B2 := Lib.hid (B1.out.trans (kept_below hK2 B1.out.size (fun k hk => (own_lt O1.out hk).2)))
  obtain ⟨cl, hcl⟩ : ∃ cl, cl = l.filter canC := ⟨_, rfl⟩
  rw [← hcl] at hown2
  have HCLL := Lib.hid (show cl.length ≤ 200 by rw [hcl]; have := List.length_filter_le canC l; omega)
  have HCL := Lib.hid hcl
  obtain ⟨A2, c2, rfl, _, _⟩ := own_creads hown2 rfl
  have O2 := Lib.hid hown2
  clear hown2 hK2 hcl
  go_wp2_with fail
  go_loopw [4, 15] (fun dv kv wr => ∃ (k : Nat), kv = .int .i64 k ∧ k ≤ cl.length ∧ wr.ownsRow w.heap.size 30 2 dv k (dcells ((cl.take k).map key)) ∧ wr.ownsRow w.heap.size 55 3 (.slice A2 cl.length c2) cl.length (tcells cl) ∧ Below w.heap.size w wr) (fun _ kv _ => cl.length - (intOf kv).toNat)
  case atStart => exact ⟨0, rfl, by omega, by simpa [dcells] using World.ownsRow_nil _ _ _ _, O2.out, B2.out⟩
  case round =>
    obtain ⟨k, rfl, hk, hD, hC, hb⟩ := hrel
    have DD := Lib.hid hD
    have CC := Lib.hid hC
    have BB := Lib.hid hb
    have hcl200 : cl.length ≤ 200 := HCLL.out
    clear hD hC hb
    by_cases hlt : k < cl.length
    · have HLT := Lib.hid hlt
      obtain ⟨ad, rfl, _, hcell⟩ := (own_creads_is CC.out rfl) (by omega)
      have HX := Lib.hid (hcell k hlt)
      obtain ⟨U1, hU1⟩ : ∃ u, u = wr.alloc (.cells #[.int .i64 (at3 cl k).1, .int .i64 (at3 cl k).2.1, .int .i64 (at3 cl k).2.2] 55) := ⟨_, rfl⟩
      obtain ⟨U2, hU2⟩ : ∃ u, u = U1.alloc (.cells #[.int .i64 (at3 cl k).2.1, .int .i64 (at3 cl k).1] 30) := ⟨_, rfl⟩
      obtain ⟨G, hG⟩ : ∃ u, u = U1.heap.size := ⟨_, rfl⟩
      have hb1 : Below wr.heap.size wr U1 := by rw [hU1]; exact (Below.refl _ _).alloc (Nat.le_refl _) _
      have hb2 : Below wr.heap.size wr U2 := by rw [hU2]; exact hb1.alloc hb1.size _
      have X2 := Lib.hid (show U2.heap[G]? = some (.cells #[.int .i64 (at3 cl k).2.1, .int .i64 (at3 cl k).1] 30 (0, 0)) by rw [hU2, hG]; exact heap_alloc_new U1 _)
      have D2 := Lib.hid (own_row DD.out (fun q hq => hb2.block q (own_lt DD.out hq).1))
      have C2 := Lib.hid (own_row CC.out (fun q hq => hb2.block q (own_lt CC.out hq).1))
      have BU := Lib.hid (BB.out.trans (hb2.mono BB.out.size))
      have hx1 : (wr.alloc (.cells #[.int .i64 (at3 cl k).1, .int .i64 (at3 cl k).2.1, .int .i64 (at3 cl k).2.2] 55)).heap[wr.heap.size]? = some (.cells #[.int .i64 (at3 cl k).1, .int .i64 (at3 cl k).2.1, .int .i64 (at3 cl k).2.2] 55 (0, 0)) := heap_alloc_new wr _
      have c1 := cell_of_row _ wr.heap.size 0 _ 55 (0, 0) hx1
      have c2' := cell_of_row _ wr.heap.size 1 _ 55 (0, 0) hx1
      have HUU := Lib.hid (show U2 = (wr.alloc (.cells #[.int .i64 (at3 cl k).1, .int .i64 (at3 cl k).2.1, .int .i64 (at3 cl k).2.2] 55)).alloc (.cells #[.int .i64 (at3 cl k).2.1, .int .i64 (at3 cl k).1] 30) by rw [hU2, hU1])
      have HGG := Lib.hid (show G = wr.heap.size + 1 by rw [hG, hU1]; simp)
      clear hcell hb1 hb2 hx1 hU1 hU2 hG hlt
      go_wp2_with (first
        | refine l_val rfl (run_at_T Try.underlying47 size55 (x := .tmp 13) (y := .tmp 15) (ad := ad) (i := k) rfl rfl rfl HLT.out _) ?_
        | refine l_val rfl (run_load_triple Try.underlying55 size55 (x := .tmp 17) (d := at3 cl k) rfl rfl HX.out) ?_
        | (at_builtin
           rw [← HUU.out, ← HGG.out]
           refine wpList_append_any _ rfl (.tmp 19) (.tmp 25) _ rfl w.heap.size 30 i0 _ 2 16 Try.underlying39 hi0 hz0 hz1 hz2 rfl (by omega) u4 k (dcells ((cl.take k).map key)) rfl D2.out _ (some ⟨G, 0, none⟩) 1 1 [.int .i64 (at3 cl k).2.1, .int .i64 (at3 cl k).1] rfl (reads_news X2.out rfl) (by simp [Value.oneCell']) (by unfold maxLen; omega) (by omega) BU.out.size ?_
           intro v5 w5 hown5 hgr5 hat5))
      have NX := Lib.hid (show w5.ownsRow w.heap.size 30 2 v5 (k + 1) (dcells ((cl.take (k + 1)).map key)) by
        have e : cl.take (k + 1) = cl.take k ++ [at3 cl k] := by rw [List.take_add_one, at3_some HLT.out]; rfl
        rw [e, List.map_append, dcells_append]
        exact hown5)
      have NC := Lib.hid (own_row C2.out (fun q hq => hgr5.block q (own_lt C2.out hq).1 (fun e => own_far C2.out D2.out (by decide) hq e.symm)))
      have NB := Lib.hid (BU.out.grown hgr5 BU.out.size (fun q hq => (own_lt D2.out hq).2))
      clear hown5 hgr5 hat5
      go_roundw
      case rel => exact ⟨k + 1, by go_num, HLT.out, NX.out, NC.out, NB.out⟩
      case measure => have := HLT.out; simp [intOf]; omega
    · have hkl : k = cl.length := by omega
      subst hkl
      obtain ⟨due, hdue⟩ : ∃ due, due = cl.map key := ⟨_, rfl⟩
      have hdl : due.length = cl.length := by rw [hdue]; simp
      have hO3 : wr.ownsRow w.heap.size 30 2 u4 due.length (dcells due) := by
        have := DD.out
        rw [List.take_length, ← hdue, ← hdl] at this
        exact this
      have HKEY := Lib.hid (show due = keys l by rw [hdue, HCL.out]; rfl)
      have hdl2 : due.length ≤ 1000 := by omega
      obtain ⟨Ad, cd, rfl, _, hrd⟩ := own_reads hO3 rfl
      have HRD := Lib.hid hrd
      clear hdue hdl hrd hO3 DD hlt
      go_wp2_with fail
      refine (sorted_any wr Ad cd due HRD.out hdl2).mono ?_
      rintro e w6 ⟨v6, s, rfl, hO6, hp6, hri6, hb6⟩
      have PE := Lib.hid (show s.Perm (keys l) by rw [← HKEY.out]; exact hp6)
      have RI := Lib.hid hri6
      have O6 := Lib.hid (own_base hO6 BB.out.size)
      have B6 := Lib.hid (BB.out.trans (hb6.mono BB.out.size))
      have hsl : s.length ≤ 1000 := by rw [hp6.length_eq]; exact hdl2
      have HSL := Lib.hid hsl
      obtain ⟨As, cs, rfl⟩ := own_slice hO6
      clear hO6 hp6 hri6 hb6 hsl
      go_wp2_with fail
      go_loopw [7, 31] (fun ov kv wr => ∃ (k : Nat), kv = .int .i64 k ∧ k ≤ s.length ∧ wr.ownsRow w.heap.size 3 1 ov k (ids (s.take k)) ∧ wr.ownsRow w.heap.size 30 2 (.slice As s.length cs) s.length (dcells s) ∧ Below w.heap.size w wr) (fun _ kv _ => s.length - (intOf kv).toNat)
      case atStart => exact ⟨0, rfl, by omega, by simpa [ids] using World.ownsRow_nil _ _ _ _, O6.out, B6.out⟩
      case round =>
        obtain ⟨k, rfl, hk2, hD, hC, hb⟩ := hrel
        have DD := Lib.hid hD
        have CC := Lib.hid hC
        have BB := Lib.hid hb
        clear hD hC hb
        by_cases hlt : k < s.length
        · have HLT := Lib.hid hlt
          have hs1000 : s.length ≤ 1000 := HSL.out
          obtain ⟨ad, rfl, _, hcell⟩ := (own_reads_is CC.out rfl).2 (by omega)
          have HX := Lib.hid (hcell k hlt)
          obtain ⟨U1, hU1⟩ : ∃ u, u = wr.alloc (.cells #[.int .i64 (at_ s k).1, .int .i64 (at_ s k).2] 30) := ⟨_, rfl⟩
          obtain ⟨U2, hU2⟩ : ∃ u, u = U1.alloc (.cells #[.int .i64 (at_ s k).2] 3) := ⟨_, rfl⟩
          obtain ⟨G, hG⟩ : ∃ u, u = U1.heap.size := ⟨_, rfl⟩
          have hb1 : Below wr.heap.size wr U1 := by rw [hU1]; exact (Below.refl _ _).alloc (Nat.le_refl _) _
          have hb2 : Below wr.heap.size wr U2 := by rw [hU2]; exact hb1.alloc hb1.size _
          have X2 := Lib.hid (show U2.heap[G]? = some (.cells #[.int .i64 (at_ s k).2] 3 (0, 0)) by rw [hU2, hG]; exact heap_alloc_new U1 _)
          have D2 := Lib.hid (own_row DD.out (fun q hq => hb2.block q (own_lt DD.out hq).1))
          have C2 := Lib.hid (own_row CC.out (fun q hq => hb2.block q (own_lt CC.out hq).1))
          have BU := Lib.hid (BB.out.trans (hb2.mono BB.out.size))
          have hx1 : (wr.alloc (.cells #[.int .i64 (at_ s k).1, .int .i64 (at_ s k).2] 30)).heap[wr.heap.size]? = some (.cells #[.int .i64 (at_ s k).1, .int .i64 (at_ s k).2] 30 (0, 0)) := heap_alloc_new wr _
          have c1 := cell_of_row _ wr.heap.size 0 _ 30 (0, 0) hx1
          have c2' := cell_of_row _ wr.heap.size 1 _ 30 (0, 0) hx1
          have HUU := Lib.hid (show U2 = (wr.alloc (.cells #[.int .i64 (at_ s k).1, .int .i64 (at_ s k).2] 30)).alloc (.cells #[.int .i64 (at_ s k).2] 3) by rw [hU2, hU1])
          have HGG := Lib.hid (show G = wr.heap.size + 1 by rw [hG, hU1]; simp)
          clear hcell hb1 hb2 hx1 hU1 hU2 hG hlt
          go_wp2_with (first
            | refine l_val rfl (run_at_T Try.underlying39 size30 (x := .tmp 29) (y := .tmp 31) (ad := ad) (i := k) rfl rfl rfl HLT.out _) ?_
            | refine l_val rfl (run_load_dueA (x := .tmp 33) (d := at_ s k) rfl rfl HX.out.1 HX.out.2) ?_
            | (at_builtin
               rw [← HUU.out, ← HGG.out]
               refine wpList_append_any _ rfl (.tmp 35) (.tmp 38) _ rfl w.heap.size 3 j0 _ 1 8 Try.underlying49 hj0 jz0 jz1 jz2 rfl (by omega) u7 k (ids (s.take k)) rfl D2.out _ (some ⟨G, 0, none⟩) 1 1 [.int .i64 (at_ s k).2] rfl (reads_news X2.out rfl) (by simp [Value.oneCell']) (by unfold maxLen; omega) (by omega) BU.out.size ?_
               intro v5 w5 hown5 hgr5 hat5))
          have NX := Lib.hid (show w5.ownsRow w.heap.size 3 1 v5 (k + 1) (ids (s.take (k + 1))) by
            have e : s.take (k + 1) = s.take k ++ [at_ s k] := by rw [List.take_add_one, at_some HLT.out]; rfl
            unfold ids at *
            rw [e, List.map_append]
            exact hown5)
          have NC := Lib.hid (own_row C2.out (fun q hq => hgr5.block q (own_lt C2.out hq).1 (fun e => own_far C2.out D2.out (by decide) hq e.symm)))
          have NB := Lib.hid (BU.out.grown hgr5 BU.out.size (fun q hq => (own_lt D2.out hq).2))
          clear hown5 hgr5 hat5
          go_roundw
          case rel => exact ⟨k + 1, by go_num, HLT.out, NX.out, NC.out, NB.out⟩
          case measure => have := HLT.out; simp [intOf]; omega
        · have hkl : k = s.length := by omega
          subst hkl
          have OO := Lib.hid (show wr.ownsRow w.heap.size 3 1 u7 s.length (ids s) by have := DD.out; rw [List.take_length] at this; exact this)
          clear DD
          go_wp2_with fail
          go_ret
          exact ⟨_, s, rfl, OO.out, PE.out, RI.out, BB.out⟩
end Go.Proofs.Ytcmbmocineegoaa
