/-
  tree.insert in an inner node.
  Conditions: there is room; what it answers for the child.
-/
import Derived.Test.YtnlolhlbpdmljaaGreatDoorTreU
namespace Go.Proofs.YtnlolhlbpdmljaaGreatDoor
open Go.ChangeShapes Go.WideShapes Go.RowKit
section
variable {ρ : Operand → Value} {o : Oper}
theorem run_fld89_0 {x : Operand} (ho : o.op = .fieldAddr 89 x 0) {d : Nat} (hx : ρ x = .pointer (some ⟨d, 0, none⟩)) (w : World) : (execOp ρ o).run Tryz.prog w = .ok (.value (.pointer (some ⟨d, 0, none⟩))) w := by
  unfold execOp; rw [ho]; simp [hx, go_sem]
theorem run_fld89_1 {x : Operand} (ho : o.op = .fieldAddr 89 x 1) {d : Nat} (hx : ρ x = .pointer (some ⟨d, 0, none⟩)) (w : World) : (execOp ρ o).run Tryz.prog w = .ok (.value (.pointer (some ⟨d, 1, none⟩))) w := by
  unfold execOp; rw [ho]; simp [hx, go_sem]
theorem run_fld89_2 {x : Operand} (ho : o.op = .fieldAddr 89 x 2) {d : Nat} (hx : ρ x = .pointer (some ⟨d, 0, none⟩)) (w : World) : (execOp ρ o).run Tryz.prog w = .ok (.value (.pointer (some ⟨d, 2, none⟩))) w := by
  unfold execOp; rw [ho]; simp [hx, go_sem]
theorem run_fld89_3 {x : Operand} (ho : o.op = .fieldAddr 89 x 3) {d : Nat} (hx : ρ x = .pointer (some ⟨d, 0, none⟩)) (w : World) : (execOp ρ o).run Tryz.prog w = .ok (.value (.pointer (some ⟨d, 3, none⟩))) w := by
  unfold execOp; rw [ho]; simp [hx, go_sem]
theorem run_alloc89 (ho : o.op = .alloc 89) (w : World) : (execOp ρ o).run Tryz.prog w = .ok (.value (.pointer (some ⟨w.heap.size, 0, none⟩))) (w.alloc (.cells L89 89)) := by
  unfold execOp; rw [ho]; simp [go_sem]
theorem run_store_row89 {x y : Operand} (ho : o.op = .store 89 x y) {g : Nat} {cs : Array Value} (hx : ρ x = .pointer (some ⟨g, 0, none⟩)) (hy : ρ y = .agg cs) (h4 : cs.size = 4) {t : TypeId} {old : Array Value} {w : World} (hg : w.heap[g]? = some (.cells old t (0, 0))) (h4' : old.size = 4) (h3 : cs.all (·.oneCell') = true) : (execOp ρ o).run Tryz.prog w = .ok .skip (w.setRow g cs) := by
  have hr := run_storeVar_row (P := Tryz.prog) w g t 89 old cs hg (by rw [h4]; exact size89) (by rw [h4, h4']) h3
  unfold execOp
  rw [ho]
  simp only [hx, hy, Instr.storeAt, Instr.sureAddr, Sem.run_bind, Sem.run_pure, Result.andThen_ok, hr]
theorem run_ld_pair {x : Operand} (ho : o.op = .load 93 x) {S : Nat} (hx : ρ x = .pointer (some ⟨S, 0, none⟩)) {u v : Value} {t : TypeId} {fr : Nat × Nat} {w : World} (h : w.heap[S]? = some (.cells #[u, v] t fr)) : (execOp ρ o).run Tryz.prog w = .ok (.value (.agg #[u, v])) w :=
  run_load_agg ho hx h Tryz.underlying93 rfl (by kernel_rfl)
end
section
variable {a : Act} {o : Oper}
theorem run_call4 {f : FuncId} {x y z t : Operand} {ts : Array TypeId} (ho : o.op = .call { callee := .value (.func f), args := #[x, y, z, t], argTypes := ts })
    (hcf : ∀ args w, (callFunc f args).run Tryz.prog w = .ok (.enter f args) w) {u v p q : Value} (hx : a.eval x = u) (hy : a.eval y = v) (hz : a.eval z = p) (ht : a.eval t = q) (w : World) : (execOp a.eval o).run Tryz.prog w = .ok (.enter f #[u, v, p, q]) w := by
  rw [run_call ho rfl hcf]; simp [hx, hy, hz, ht]
end
section
variable {w0 w : World} {S R N B P d : Nat} {V : Nat → B8} {m : Nat} {s : SupT} {Fr Go : List Nat} {x : Nat} {b : B8} {cs : Array Value} {vK vV vC : Value} {n : PN}
theorem own_ne {B e m : Nat} {v : Value} {xs : List Value} (ho : w.ownsRow B e 1 v m xs) {G : Nat} {c : Array Value} {t : TypeId} (hG : w.heap[G]? = some (.cells c t (0, 0))) (ht : e ≠ t) : v.ownBlock ≠ some G := by
  intro h
  rcases ho.2 with ⟨rfl, _⟩ | ⟨g, cap, cur, rfl, _, hh, _⟩
  · cases h
  · injection h with h
    have h : g = G := h
    subst h
    rw [hG] at hh
    injection hh with hh
    injection hh with _ hh _
    exact ht hh.symm
theorem In0.setG (h : In0 w0 w S R N B P d V m s Fr Go x b cs) {G : Nat} {c c' : Array Value} (hG : w.heap[G]? = some (.cells c 89 (0, 0))) (hGR : R ≠ G) (hlow : w0.heap.size ≤ G) : In0 w0 (w.setRow G c') S R N B P d V m s Fr Go x b cs := by
  have ne : ∀ {q : Nat} {c2 : Array Value} {t : TypeId}, w.heap[q]? = some (.cells c2 t (0, 0)) → t ≠ 89 → q ≠ G := fun hq ht e => by
    subst e
    rw [hG] at hq
    injection hq with hq
    injection hq with _ hq _
    exact ht hq.symm
  exact ⟨h.p.setRow hG rfl _, (setRow_other _ _ _ _ (ne h.pair (by decide))).trans h.pair, (setRow_other _ _ _ _ hGR).trans h.res, (setRow_other _ _ _ _ (ne h.nd (by decide))).trans h.nd, h.kt.setRow_new hlow _, h.low, h.apart⟩
theorem NOwn.setG (ho : NOwn w B vK vV vC n) {G : Nat} {c c' : Array Value} (hG : w.heap[G]? = some (.cells c 89 (0, 0))) : NOwn (w.setRow G c') B vK vV vC n :=
  ho.moved (fun q cs' t hq ht => setRow_other _ _ _ _ (fun e => by
    subst e
    rw [hG] at hq
    injection hq with hq
    injection hq with _ hq _
    subst hq
    rcases ht with h | h <;> cases h))
/-- A kid set. -/
theorem kid_set (hi : In0 w0 w S R N B P d V m s Fr Go x b cs) {g cap k u : Nat} (ho : NOwn w w0.heap.size vK vV (.slice (some ⟨g, 0, none⟩) n.kids.length cap) n) : In0 w0 (w.setCell ⟨g, k, none⟩ (.int .i64 (u : Int))) S R N B P d V m s Fr Go x b cs ∧ NOwn (w.setCell ⟨g, k, none⟩ (.int .i64 (u : Int))) w0.heap.size vK vV (.slice (some ⟨g, 0, none⟩) n.kids.length cap) ⟨n.keys, n.vals, n.kids.set k u⟩ ∧ Kept (fun q => (Value.slice (some ⟨g, 0, none⟩) n.kids.length cap).ownBlock = some q) w (w.setCell ⟨g, k, none⟩ (.int .i64 (u : Int))) := by
  have hK : Kept (fun q => (Value.slice (some ⟨g, 0, none⟩) n.kids.length cap).ownBlock = some q) w (w.setCell ⟨g, k, none⟩ (.int .i64 (u : Int))) := ⟨rfl, rfl, rfl, by rw [setCell_size]; exact Nat.le_refl _, fun q _ hq => heap_setCell_other w ⟨g, k, none⟩ q _ (fun e => hq (by rw [e]; rfl))⟩
  refine ⟨hi.rows (rows_own (w0 := w0) ho.kids (.inl rfl) (Nat.le_refl _)) hK, ⟨own_other ho.keys ho.kids hK ho.dj, own_other ho.vals ho.kids hK (own_types ho.vals ho.kids (by decide)), ?_, ho.dj⟩, hK⟩
  have := (ho.kids.stored k (.int .i64 (u : Int))).1
  rw [← ints_set] at this
  rw [List.length_set]
  exact this
end
set_option maxRecDepth 100000 in
set_option maxHeartbeats 8000000 in
theorem insert_inner {w : World} {B P d : Nat} {V : Nat → B8} {m : Nat} {s : SupT} {Fr Go : List Nat} (hp : PAt w B P d V m s Fr Go) (at_ depth x : Nat) (b : B8) (n : PN) (hat : at_ < 240) (hdep : depth ≤ 12) (hu : mem s.2.2 at_ = true) (hfr : mem Fr at_ = false) (hgo : mem Go at_ = false) (hV : V at_ = laidP 2 (nlay n)) (hr : NRight n) (hl : n.kids ≠ [])
    {h mn lo hi lo' hi' : Nat} {ps psk : List Nat} {K Kk : Nat} {k kid : Nat} (hk : k = childN n.keys x) (hkid : kid = n.kids.getD k 0) (hkl : k < n.kids.length) (hkk : k ≤ n.keys.length)
    (ih : ∀ w', PAt w' B P d V m s Fr (withP Go (at_ : Int)) → Calls Tryz.prog 28 #[.pointer (some ⟨P, 0, none⟩), .int .i64 (kid : Int), .int .i64 ((depth + 1 : Nat) : Int), .agg #[.int .i64 (x : Int), .string (strB b)]] w' (Inserted w' B P d V m s Fr (withP Go (at_ : Int)) h 3 lo' hi' psk Kk))
    (hmid : ∀ V' Fr' Go' l r key two, Grew s.2.2 Fr (withP Go (at_ : Int)) V h 3 lo' hi' psk Kk V' Fr' Go' l r key two →
        (two = false → Mid s.2.2 Fr Go V h mn lo hi ps K Fr' Go' V' ⟨n.keys, n.vals, n.kids.set k l⟩) ∧
        (two = true → Mid s.2.2 Fr Go V h mn lo hi ps K Fr' Go' V' ⟨ins n.keys k key, n.vals, ins (n.kids.set k l) (k + 1) r⟩))
    (hm : m + 2 * h + 2 < 100000) (hroom : cnt (bothP s.2.2 Fr) 240 + 2 * (h + 1) ≤ 238) :
    Calls Tryz.prog 28 #[.pointer (some ⟨P, 0, none⟩), .int .i64 (at_ : Int), .int .i64 (depth : Int), .agg #[.int .i64 (x : Int), .string (strB b)]] w (Inserted w B P d V m s Fr Go (h + 1) mn lo hi ps K) := by
  have HDEP := Lib.hid hdep
  obtain ⟨S, hS⟩ : ∃ S, S = w.heap.size := ⟨_, rfl⟩
  obtain ⟨R, hR⟩ : ∃ S, S = w.heap.size + 1 := ⟨_, rfl⟩
  obtain ⟨W1, hW1⟩ : ∃ W, W = (w.alloc (.cells #[.int .i64 (x : Int), .string (strB b)] 93)).alloc (.cells L89 89) := ⟨_, rfl⟩
  have S1 := Lib.hid (show W1.heap[S]? = some (.cells #[.int .i64 (x : Int), .string (strB b)] 93 (0, 0)) by rw [hW1, hS]; exact heap_alloc2_old _ _ _)
  have R1 := Lib.hid (show W1.heap[R]? = some (.cells L89 89 (0, 0)) by rw [hW1, hR]; exact heap_alloc2_new _ _ _)
  have b1 : Below w.heap.size w W1 := by rw [hW1]; exact ((Below.refl _ _).alloc (Nat.le_refl _) _).alloc (by simp) _
  have B1 := Lib.hid b1
  have SR := Lib.hid (show w.heap.size ≤ S ∧ w.heap.size ≤ R by omega)
  have LD := Lib.hid (tload_any (hp.below b1) at_ depth n hat hdep (by rw [hu]; rfl) hV hr)
  have PD := Lib.hid (show ∀ w', PAt w' B P d V m s Fr Go → _ from fun w' q => pdrop_any q at_ hat hu hfr hgo)
  have HP1 := Lib.hid (hp.below b1)
  have LEAF := Lib.hid leaf_any
  have HS := Lib.hid hS
  have HR := Lib.hid hR
  have HW1 := Lib.hid hW1
  clear hS hR hW1 b1 hp hdep hV hu hfr hgo
  go_enter Tryz.func28, Tryz.ntmps28
  go_upto_region 1 with fail
  rw [← HW1.out, ← HR.out, ← HS.out]
  go_wp2_with fail
  refine LD.out.mono ?_
  rintro e w2 ⟨vK, vV, vC, rfl, ho, hb2⟩
  obtain ⟨N, hN⟩ : ∃ N, N = w2.heap.size := ⟨_, rfl⟩
  obtain ⟨W3, hW3⟩ : ∃ W, W = w2.alloc (.cells #[nilS, nilS, nilS] 87) := ⟨_, rfl⟩
  obtain ⟨U3, hU3⟩ : ∃ W, W = W3.setRow N #[vK, vV, vC] := ⟨_, rfl⟩
  have n3 : W3.heap[N]? = some (.cells #[nilS, nilS, nilS] 87 (0, 0)) := by rw [hW3, hN]; exact heap_alloc_new _ _
  have b3 : Below w2.heap.size w2 W3 := by rw [hW3]; exact (Below.refl _ _).alloc (Nat.le_refl _) _
  have b4 : Below w2.heap.size w2 U3 := by rw [hU3]; exact below_setRow b3 (by omega) _
  have b5 := hb2.trans (b4.mono hb2.size)
  have I3 := Lib.hid (show In0 w U3 S R N B P d V m s Fr Go x b #[vK, vV, vC] from ⟨HP1.out.below b5, (b5.block S (row_lt S1.out)).trans S1.out, (b5.block R (row_lt R1.out)).trans R1.out, by rw [hU3]; exact setRow_has n3, KT.of_below (B1.out.trans (b5.mono B1.out.size)) B isPg, ⟨SR.out.1, SR.out.2, by have := B1.out.size; have := hb2.size; omega⟩, ⟨by have := row_lt S1.out; have := hb2.size; omega, by have := row_lt R1.out; have := hb2.size; omega⟩⟩)
  have O3 := Lib.hid ((ho.base B1.out.size).below b4)
  have ONE := Lib.hid (node_one ho)
  have HN := Lib.hid hN
  have HW3 := Lib.hid hW3
  have HU3 := Lib.hid hU3.symm
  clear hN hW3 hU3 n3 b3 b4 b5 ho hb2
  have N3 := Lib.hid (heap_alloc_new w2 (.cells #[nilS, nilS, nilS] 87))
  go_wp2_with (refine wpList_store_row rfl 87 (.tmp 10) (.tmp 22) rfl w2.heap.size #[vK, vV, vC] rfl rfl 87 #[nilS, nilS, nilS] N3.out size87 rfl ONE.out ?_)
  rw [← HW3.out, ← HN.out, HU3.out]
  refine (PD.out _ I3.out.p).mono ?_
  rintro e w4 ⟨rfl, hp4, hk4⟩
  have I4 := Lib.hid (I3.out.turn hp4 hk4)
  have O4 := Lib.hid (O3.out.kt hk4)
  clear hp4 hk4
  go_upto_region 7 with fail
  refine wp_region_lit ?_
  refine l_is (.load 87 (.tmp 10)) rfl rfl (run_ld_node (x := .tmp 10) rfl rfl I4.out.nd) ?_
  go_wp2_with fail
  refine (LEAF.out w4 _ n O4.out.at).mono ?_
  rintro e w5 ⟨rfl, hb5⟩
  have I5 := Lib.hid (I4.out.below hb5)
  have O5 := Lib.hid (O4.out.below hb5)
  clear hb5
  have hz : decide (n.kids.length = 0) = false := decide_eq_false (fun e => hl (List.eq_nil_of_length_eq_zero e))
  rw [hz]
  go_upto_region 13 with fail
  have c5 := I5.out.key
  refine wp_region_lit ?_
  refine l_is (.load 87 (.tmp 10)) rfl rfl (run_ld_node (x := .tmp 10) rfl rfl I5.out.nd) ?_
  go_wp2_with fail
  refine (child_any w5 _ n x O5.out.at hr.keys).mono ?_
  rintro e w6 ⟨rfl, hb6⟩
  have I6 := Lib.hid (I5.out.below hb6)
  have O6 := Lib.hid (O5.out.below hb6)
  clear hb6 c5
  rw [← hk]
  have h7 := hr.keys.1
  have hck : n.kids.length ≤ 9 := by
    rcases hr.shape with ⟨h, _, _⟩ | ⟨_, _, h, _⟩
    · rw [h]; simp
    · omega
  have KL := Lib.hid (show k ≤ n.keys.length ∧ n.keys.length ≤ 50 ∧ k < n.kids.length ∧ n.kids.length ≤ 49 by omega)
  obtain ⟨gC, cC, rfl, hcC⟩ := own_cap O6.out.kids (by omega)
  obtain ⟨cur, hcur, hcs, hck2⟩ : ∃ cur, w6.heap[gC]? = some (.cells cur 3 (0, 0)) ∧ cur[k]? = some (.int .i64 (kid : Int)) ∧ n.kids.length ≤ cur.size := by
    have ha := O6.out.kids.cellAt k (by omega)
    rcases O6.out.kids.2 with ⟨h, _⟩ | ⟨g, cap, cur, h, _, hh, _, _, h2, _⟩
    · cases h
    · injection h with h1 _ h3
      injection h1 with h1
      injection h1 with h1 _ _
      subst h1 h3
      refine ⟨cur, hh, ?_, by omega⟩
      rw [cell_of_row w6 gC k cur 3 (0, 0) hh, ints_at hkl] at ha
      rw [ha, hkid, List.getD_eq_getElem?_getD, List.getElem?_eq_getElem hkl]
      rfl
  have HCUR := Lib.hid hcs
  have HMID := Lib.hid hmid
  have HIH := Lib.hid ih
  have ROOM := Lib.hid hroom
  have HM := Lib.hid hm
  have HR := Lib.hid hr
  clear hz hk hkid hkl hkk h7 hck hcC hcs hck2 hmid ih hroom hm hl hr
  go_upto_region 14 with fail
  have I6d := Lib.hid I6.out.drew
  have O6d := Lib.hid (show NOwn w6.drew w.heap.size vK vV (.slice (some ⟨gC, 0, none⟩) n.kids.length cC) n from O6.out.below (Below.refl _ _).drew)
  have RC := Lib.hid (show w6.drew.heap[gC]? = some (.cells cur 3 (0, 0)) from hcur)
  obtain ⟨v0, hv0⟩ : ∃ u, u = w6.drew := ⟨_, rfl⟩
  rw [← hv0] at I6d O6d RC
  have HV0 := Lib.hid hv0.symm
  clear hv0 hcur
  have CD := Lib.hid (fun (w' : World) (h : (fun (_ : Bool) (w' : World) => w'.heap[N]? = some (.cells #[vK, vV, .slice (some ⟨gC, 0, none⟩) n.kids.length cC] 87 (0, 0)) ∧ w'.heap[S]? = some (.cells #[.int .i64 (x : Int), .string (strB b)] 93 (0, 0)) ∧ w'.heap[gC]? = some (.cells cur 3 (0, 0))) false w') => show (fun (_ : Bool) (w' : World) => w'.heap[N]? = some (.cells #[vK, vV, .slice (some ⟨gC, 0, none⟩) n.kids.length cC] 87 (0, 0)) ∧ w'.heap[S]? = some (.cells #[.int .i64 (x : Int), .string (strB b)] 93 (0, 0)) ∧ w'.heap[gC]? = some (.cells cur 3 (0, 0))) true w' from h)
  have CS := Lib.hid (show (fun (_ : Bool) (w' : World) => w'.heap[N]? = some (.cells #[vK, vV, .slice (some ⟨gC, 0, none⟩) n.kids.length cC] 87 (0, 0)) ∧ w'.heap[S]? = some (.cells #[.int .i64 (x : Int), .string (strB b)] 93 (0, 0)) ∧ w'.heap[gC]? = some (.cells cur 3 (0, 0))) false v0 from ⟨I6d.out.nd, I6d.out.pair, RC.out⟩)
  refine k_region [] (fun (_ : Bool) (w' : World) => w'.heap[N]? = some (.cells #[vK, vV, .slice (some ⟨gC, 0, none⟩) n.kids.length cC] 87 (0, 0)) ∧ w'.heap[S]? = some (.cells #[.int .i64 (x : Int), .string (strB b)] 93 (0, 0)) ∧ w'.heap[gC]? = some (.cells cur 3 (0, 0))) 16 rfl (by kernel_rfl) ?_
  rw [HV0.out]
  refine k_take 0 rfl (some 77) rfl (by kernel_rfl) (by kernel_rfl) (by kernel_rfl) (fun _ _ _ h => h) (by kernel_rfl) (by kernel_rfl) CD.out rfl (fun w' hw' => run_move_is (.tmp 0) (.pointer (some ⟨P, 0, none⟩)) rfl rfl w') CS.out ?_
  simp only [Act.put, List.setIfInBounds_toArray, List.set_cons_succ, List.set_cons_zero]
  refine k_take 1 rfl (some 78) rfl (by kernel_rfl) (by kernel_rfl) (by kernel_rfl) (fun _ _ _ h => h) (by kernel_rfl) (by kernel_rfl) CD.out rfl (fun w' hw' => run_fld87_2 (x := .tmp 10) (d := N) rfl rfl w') CS.out ?_
  simp only [Act.put, List.setIfInBounds_toArray, List.set_cons_succ, List.set_cons_zero]
  refine k_take 2 rfl (some 79) rfl (by kernel_rfl) (by kernel_rfl) (by kernel_rfl) (fun _ _ _ h => h) (by kernel_rfl) (by kernel_rfl) CD.out rfl (fun w' hw' => run_load_slice Tryz.underlying33 (x := .tmp 78) (a := ⟨N, 2, none⟩) rfl rfl (cell_of_row w' N 2 _ 87 (0, 0) hw'.1)) CS.out ?_
  simp only [Act.put, List.setIfInBounds_toArray, List.set_cons_succ, List.set_cons_zero]
  refine k_take 3 rfl (some 80) rfl (by kernel_rfl) (by kernel_rfl) (by kernel_rfl) (fun _ _ _ h => h) (by kernel_rfl) (by kernel_rfl) CD.out rfl (fun w' hw' => run_move_is (.tmp 15) (.int .i64 (k : Int)) rfl rfl w') CS.out ?_
  simp only [Act.put, List.setIfInBounds_toArray, List.set_cons_succ, List.set_cons_zero]
  refine k_take 4 rfl (some 81) rfl (by kernel_rfl) (by kernel_rfl) (by kernel_rfl) (fun _ _ _ h => h) (by kernel_rfl) (by kernel_rfl) CD.out rfl (fun w' hw' => run_at_nat (x := .tmp 79) (y := .tmp 80) rfl Tryz.underlying33 size3' rfl rfl KL.out.2.2.1 w') CS.out ?_
  simp only [Act.put, List.setIfInBounds_toArray, List.set_cons_succ, List.set_cons_zero]
  refine k_take 5 rfl (some 82) rfl (by kernel_rfl) (by kernel_rfl) (by kernel_rfl) (fun _ _ _ h => h) (by kernel_rfl) (by kernel_rfl) CD.out rfl (fun w' hw' => run_load_int (x := .tmp 81) rfl Tryz.underlying3 rfl ((cell_of_row w' gC k cur 3 (0, 0) hw'.2.2).trans HCUR.out)) CS.out ?_
  simp only [Act.put, List.setIfInBounds_toArray, List.set_cons_succ, List.set_cons_zero]
  refine k_take 6 rfl (some 83) rfl (by kernel_rfl) (by kernel_rfl) (by kernel_rfl) (fun _ _ _ h => h) (by kernel_rfl) (by kernel_rfl) CD.out rfl (fun w' hw' => run_move_is (.tmp 2) (.int .i64 (depth : Int)) rfl rfl w') CS.out ?_
  simp only [Act.put, List.setIfInBounds_toArray, List.set_cons_succ, List.set_cons_zero]
  refine k_take 7 rfl (some 84) rfl (by kernel_rfl) (by kernel_rfl) (by kernel_rfl) (fun _ _ _ h => h) (by kernel_rfl) (by kernel_rfl) CD.out rfl (fun w' hw' => run_add_is (x := .tmp 83) (y := .const (.int .i64 1)) rfl rfl rfl ((depth + 1 : Nat) : Int) (by have := HDEP.out; omega) w') CS.out ?_
  simp only [Act.put, List.setIfInBounds_toArray, List.set_cons_succ, List.set_cons_zero]
  refine k_take 8 rfl (some 85) rfl (by kernel_rfl) (by kernel_rfl) (by kernel_rfl) (fun _ _ _ h => h) (by kernel_rfl) (by kernel_rfl) CD.out rfl (fun w' hw' => run_ld_pair (x := .tmp 7) rfl rfl hw'.2.1) CS.out ?_
  simp only [Act.put, List.setIfInBounds_toArray, List.set_cons_succ, List.set_cons_zero]
  refine k_two 9 13 (by kernel_rfl) ?_ ?_
  refine k_call rfl (some 86) rfl rfl false (by kernel_rfl) (run_call4 (x := .tmp 77) (y := .tmp 82) (z := .tmp 84) (t := .tmp 85) rfl Tryz.call28 rfl rfl rfl rfl _) (HIH.out _ I6d.out.p) ?_
  rintro e a1 ⟨V', m', Fr', Go', l, r, key, two, rfl, hp, hkt, hm, hgr⟩
  have Ia1 := Lib.hid (I6d.out.turn hp hkt)
  have Oa1 := Lib.hid (O6d.out.kt hkt)
  have RC' := Lib.hid (hkt.cells RC.out rfl)
  clear RC
  have RC := RC'
  clear RC'
  have M2 := Lib.hid hm
  have GR := Lib.hid hgr
  clear hp hkt hm hgr
  refine ⟨_, rfl, ⟨Ia1.out.nd, Ia1.out.pair, RC.out⟩, ?_⟩
  simp only [Act.put, List.setIfInBounds_toArray, List.set_cons_succ, List.set_cons_zero]
  refine k_take 10 rfl (some 76) rfl (by kernel_rfl) (by kernel_rfl) (by kernel_rfl) (fun _ _ _ h => h) (by kernel_rfl) (by kernel_rfl) CD.out rfl (fun w' hw' => run_move_is (.tmp 86) (.tuple #[.agg (gv l r key two), .nilIface]) rfl rfl w') ⟨Ia1.out.nd, Ia1.out.pair, RC.out⟩ ?_
  simp only [Act.put, List.setIfInBounds_toArray, List.set_cons_succ, List.set_cons_zero]
  refine k_take 11 rfl (some 87) rfl (by kernel_rfl) (by kernel_rfl) (by kernel_rfl) (fun _ _ _ h => h) (by kernel_rfl) (by kernel_rfl) CD.out rfl (fun w' hw' => run_extract0 (x := .tmp 76) rfl rfl w') ⟨Ia1.out.nd, Ia1.out.pair, RC.out⟩ ?_
  simp only [Act.put, List.setIfInBounds_toArray, List.set_cons_succ, List.set_cons_zero]
  refine k_take 12 rfl (some 88) rfl (by kernel_rfl) (by kernel_rfl) (by kernel_rfl) (fun _ _ _ h => h) (by kernel_rfl) (by kernel_rfl) CD.out rfl (fun w' hw' => run_extract1 (x := .tmp 76) rfl rfl w') ⟨Ia1.out.nd, Ia1.out.pair, RC.out⟩ ?_
  simp only [Act.put, List.setIfInBounds_toArray, List.set_cons_succ, List.set_cons_zero]
  refine k_one 13 (by kernel_rfl) ?_
  obtain ⟨a2, ha2⟩ : ∃ u, u = a1.alloc (.cells L89 89) := ⟨_, rfl⟩
  obtain ⟨G, hG⟩ : ∃ u, u = a1.heap.size := ⟨_, rfl⟩
  have bb : Below a1.heap.size a1 a2 := by rw [ha2]; exact (Below.refl _ _).alloc (Nat.le_refl _) _
  have Ia2 := Lib.hid (Ia1.out.below bb)
  have Oa2 := Lib.hid (Oa1.out.below bb)
  have RG := Lib.hid (show a2.heap[G]? = some (.cells L89 89 (0, 0)) by rw [ha2, hG]; exact heap_alloc_new _ _)
  have RC' := Lib.hid ((bb.block gC (row_lt RC.out)).trans RC.out)
  clear RC
  have RC := RC'
  clear RC'
  have GL := Lib.hid (show R ≠ G ∧ w.heap.size ≤ G from ⟨by have := row_lt Ia1.out.res; omega, by have := Ia1.out.kt.size; omega⟩)
  have Aa2 := Lib.hid (show ∀ (ρ : Operand → Value) (o : Oper), (execOp ρ o).run Tryz.prog a1 = .ok (.value (.pointer (some ⟨a1.heap.size, 0, none⟩))) (a1.alloc (.cells L89 89)) → (execOp ρ o).run Tryz.prog a1 = .ok (.value (.pointer (some ⟨G, 0, none⟩))) a2 from fun ρ o h => by rw [← ha2, ← hG] at h; exact h)
  clear bb ha2 hG
  refine k_val rfl (some 16) rfl rfl false (by kernel_rfl) (Aa2.out _ _ (run_alloc89 rfl _)) ⟨Ia2.out.nd, Ia2.out.pair, RC.out⟩ ?_
  simp only [Act.put, List.setIfInBounds_toArray, List.set_cons_succ, List.set_cons_zero]
  obtain ⟨y0, hy0⟩ : ∃ u, u = a2 := ⟨_, rfl⟩
  have IY := Ia2
  have OY := Oa2
  rw [← hy0] at IY OY RC RG ⊢
  clear hy0
  rotate_left
  obtain ⟨a1, ha1⟩ : ∃ u, u = v0.alloc (.cells L89 89) := ⟨_, rfl⟩
  obtain ⟨G, hG⟩ : ∃ u, u = v0.heap.size := ⟨_, rfl⟩
  have bb : Below v0.heap.size v0 a1 := by rw [ha1]; exact (Below.refl _ _).alloc (Nat.le_refl _) _
  have Ia1 := Lib.hid (I6d.out.below bb)
  have Oa1 := Lib.hid (O6d.out.below bb)
  have RG := Lib.hid (show a1.heap[G]? = some (.cells L89 89 (0, 0)) by rw [ha1, hG]; exact heap_alloc_new _ _)
  have RC' := Lib.hid ((bb.block gC (row_lt RC.out)).trans RC.out)
  clear RC
  have RC := RC'
  clear RC'
  have GL := Lib.hid (show R ≠ G ∧ w.heap.size ≤ G from ⟨by have := row_lt I6d.out.res; omega, by have := I6d.out.kt.size; omega⟩)
  have Aa1 := Lib.hid (show ∀ (ρ : Operand → Value) (o : Oper), (execOp ρ o).run Tryz.prog v0 = .ok (.value (.pointer (some ⟨v0.heap.size, 0, none⟩))) (v0.alloc (.cells L89 89)) → (execOp ρ o).run Tryz.prog v0 = .ok (.value (.pointer (some ⟨G, 0, none⟩))) a1 from fun ρ o h => by rw [← ha1, ← hG] at h; exact h)
  clear bb ha1 hG
  refine k_val rfl (some 16) rfl rfl false (by kernel_rfl) (Aa1.out _ _ (run_alloc89 rfl _)) ⟨Ia1.out.nd, Ia1.out.pair, RC.out⟩ ?_
  simp only [Act.put, List.setIfInBounds_toArray, List.set_cons_succ, List.set_cons_zero]
  refine k_one 9 (by kernel_rfl) ?_
  refine k_call rfl (some 86) rfl rfl false (by kernel_rfl) (run_call4 (x := .tmp 77) (y := .tmp 82) (z := .tmp 84) (t := .tmp 85) rfl Tryz.call28 rfl rfl rfl rfl _) (HIH.out _ Ia1.out.p) ?_
  rintro e a2 ⟨V', m', Fr', Go', l, r, key, two, rfl, hp, hkt, hm, hgr⟩
  have Ia2 := Lib.hid (Ia1.out.turn hp hkt)
  have Oa2 := Lib.hid (Oa1.out.kt hkt)
  have RC' := Lib.hid (hkt.cells RC.out rfl)
  clear RC
  have RC := RC'
  clear RC'
  have M2 := Lib.hid hm
  have GR := Lib.hid hgr
  have RG' := Lib.hid (hkt.cells RG.out rfl)
  clear RG
  have RG := RG'
  clear RG'
  clear hp hkt hm hgr
  refine ⟨_, rfl, ⟨Ia2.out.nd, Ia2.out.pair, RC.out⟩, ?_⟩
  simp only [Act.put, List.setIfInBounds_toArray, List.set_cons_succ, List.set_cons_zero]
  refine k_take 10 rfl (some 76) rfl (by kernel_rfl) (by kernel_rfl) (by kernel_rfl) (fun _ _ _ h => h) (by kernel_rfl) (by kernel_rfl) CD.out rfl (fun w' hw' => run_move_is (.tmp 86) (.tuple #[.agg (gv l r key two), .nilIface]) rfl rfl w') ⟨Ia2.out.nd, Ia2.out.pair, RC.out⟩ ?_
  simp only [Act.put, List.setIfInBounds_toArray, List.set_cons_succ, List.set_cons_zero]
  refine k_take 11 rfl (some 87) rfl (by kernel_rfl) (by kernel_rfl) (by kernel_rfl) (fun _ _ _ h => h) (by kernel_rfl) (by kernel_rfl) CD.out rfl (fun w' hw' => run_extract0 (x := .tmp 76) rfl rfl w') ⟨Ia2.out.nd, Ia2.out.pair, RC.out⟩ ?_
  simp only [Act.put, List.setIfInBounds_toArray, List.set_cons_succ, List.set_cons_zero]
  refine k_take 12 rfl (some 88) rfl (by kernel_rfl) (by kernel_rfl) (by kernel_rfl) (fun _ _ _ h => h) (by kernel_rfl) (by kernel_rfl) CD.out rfl (fun w' hw' => run_extract1 (x := .tmp 76) rfl rfl w') ⟨Ia2.out.nd, Ia2.out.pair, RC.out⟩ ?_
  simp only [Act.put, List.setIfInBounds_toArray, List.set_cons_succ, List.set_cons_zero]
  obtain ⟨y0, hy0⟩ : ∃ u, u = a2 := ⟨_, rfl⟩
  have IY := Ia2
  have OY := Oa2
  rw [← hy0] at IY OY RC RG ⊢
  clear hy0
  rotate_left
  all_goals
    refine k_one 14 (by kernel_rfl) ?_
    obtain ⟨y1, hy1⟩ : ∃ u, u = y0.setRow G (gv l r key two) := ⟨_, rfl⟩
    have i1 := IY.out.setG (c' := gv l r key two) RG.out GL.out.1 GL.out.2
    rw [← hy1] at i1
    have o1 := OY.out.setG (c' := gv l r key two) RG.out
    rw [← hy1] at o1
    have I1 := Lib.hid i1
    have O1 := Lib.hid o1
    have RC1 := Lib.hid (show y1.heap[gC]? = some (.cells cur 3 (0, 0)) by rw [hy1]; exact (setRow_other _ _ _ _ (fun e => cells_ne RC.out RG.out (by decide) e)).trans RC.out)
    have RG1 := Lib.hid (show y1.heap[G]? = some (.cells (gv l r key two) 89 (0, 0)) by rw [hy1]; exact setRow_has RG.out)
    have HY1 := Lib.hid hy1.symm
    clear hy1 i1 o1
    refine k_skp (w' := y1) rfl rfl rfl false (by kernel_rfl) (by rw [← HY1.out]; exact run_store_row89 (x := .tmp 16) (y := .tmp 87) rfl rfl rfl rfl RG.out rfl (gv_one _ _ _ _)) ⟨I1.out.nd, I1.out.pair, RC1.out⟩ ?_
    refine k_one 15 (by kernel_rfl) ?_
    refine k_val rfl (some 11) rfl rfl false (by kernel_rfl) (run_assign_is (.tmp 88) (.nilIface) rfl rfl _) ⟨I1.out.nd, I1.out.pair, RC1.out⟩ ?_
    simp only [Act.put, List.setIfInBounds_toArray, List.set_cons_succ, List.set_cons_zero]
    refine k_done (by kernel_rfl) ?_
    clear RG RC IY OY CS CD
    go_upto_region 17 with fail
    obtain ⟨y2, hy2⟩ : ∃ u, u = y1.setCell ⟨gC, k, none⟩ (.int .i64 (l : Int)) := ⟨_, rfl⟩
    have ks := kid_set (k := k) (u := l) I1.out O1.out
    rw [← hy2] at ks
    have I2 := Lib.hid ks.1
    have O2 := Lib.hid ks.2.1
    have RG2 := Lib.hid ((ks.2.2.block G (row_lt RG1.out) (own_ne O1.out.kids RG1.out (by decide))).trans RG1.out)
    have HY2 := Lib.hid hy2.symm
    have CUR2 := Lib.hid (show k < cur.size from by
      rcases Nat.lt_or_ge k cur.size with h | h
      · exact h
      · have := HCUR.out; rw [Array.getElem?_eq_none h] at this; cases this)
    clear hy2 ks
    refine wp_region_lit ?_
    refine l_is (.fieldAddr 87 (.tmp 10) 2) rfl rfl (run_fld87_2 (x := .tmp 10) (d := N) rfl rfl _) ?_
    simp only [Act.put, List.setIfInBounds_toArray, List.set_cons_succ, List.set_cons_zero]
    refine l_is (.load 33 (.tmp 93)) rfl rfl (run_load_slice Tryz.underlying33 (x := .tmp 93) (a := ⟨N, 2, none⟩) rfl rfl (cell_of_row y1 N 2 _ 87 (0, 0) I1.out.nd)) ?_
    simp only [Act.put, List.setIfInBounds_toArray, List.set_cons_succ, List.set_cons_zero]
    refine l_is (.move (.tmp 15)) rfl rfl (run_move_is (.tmp 15) (.int .i64 (k : Int)) rfl rfl _) ?_
    simp only [Act.put, List.setIfInBounds_toArray, List.set_cons_succ, List.set_cons_zero]
    refine l_is (.fieldAddr 89 (.tmp 16) 0) rfl rfl (run_fld89_0 (x := .tmp 16) (d := G) rfl rfl _) ?_
    simp only [Act.put, List.setIfInBounds_toArray, List.set_cons_succ, List.set_cons_zero]
    refine l_is (.load 3 (.tmp 96)) rfl rfl (run_load_int (x := .tmp 96) rfl Tryz.underlying3 rfl (cell_of_row y1 G 0 _ 89 (0, 0) RG1.out)) ?_
    simp only [Act.put, List.setIfInBounds_toArray, List.set_cons_succ, List.set_cons_zero]
    refine l_is (.indexAddr 33 (.tmp 94) (.tmp 95)) rfl rfl (run_at_nat (x := .tmp 94) (y := .tmp 95) rfl Tryz.underlying33 size3' rfl rfl KL.out.2.2.1 _) ?_
    simp only [Act.put, List.setIfInBounds_toArray, List.set_cons_succ, List.set_cons_zero]
    refine l_skp (w' := y2) (.store 3 (.tmp 98) (.tmp 97)) rfl rfl rfl (by rw [← HY2.out]; exact run_store_c1 size3' (x := .tmp 98) (y := .tmp 97) rfl rfl rfl rfl RC1.out CUR2.out) ?_
    clear RC1 RG1 I1 O1
    go_upto_region 18 with fail
    have c8 : y2.cell? ⟨G, 3, none⟩ = some (.bool two) := cell_of_row y2 G 3 _ 89 (0, 0) RG2.out
    have hmid2 := HMID.out _ _ _ _ _ _ _ GR.out
    have HM2 := Lib.hid hmid2
    clear hmid2
    cases two with
    | false =>
      go_upto_region 20 with fail
      clear c8
      have hmid := HM2.out.1 (by first | rfl | trivial)
      have hroom := ROOM.out
      refine wp_region_lit ?_
      refine l_is (.move (.tmp 0)) rfl rfl (run_move_is (.tmp 0) (.pointer (some ⟨P, 0, none⟩)) rfl rfl _) ?_
      simp only [Act.put, List.setIfInBounds_toArray, List.set_cons_succ, List.set_cons_zero]
      refine l_is (.load 87 (.tmp 10)) rfl rfl (run_ld_node (x := .tmp 10) rfl rfl I2.out.nd) ?_
      simp only [Act.put, List.setIfInBounds_toArray, List.set_cons_succ, List.set_cons_zero]
      go_wp2_with fail
      refine (parted_any I2.out.p _ _ _ _ O2.out hmid (by have := HM.out; have := M2.out; omega) hroom).mono ?_
      rintro e w8 ⟨V8, m8, Fr8, l8, r8, key8, two8, rfl, hp8, hk8, hm8, hgr⟩
      have R8 := Lib.hid (hk8.cells I2.out.res rfl)
      have P8 := Lib.hid hp8
      have K8 := Lib.hid hk8
      have M8 := Lib.hid hm8
      have G8 := Lib.hid hgr
      clear hp8 hk8 hm8 hgr
      go_wp2_with (refine wpList_store_row rfl 89 (.tmp 8) (.tmp 121) rfl R (gv l8 r8 key8 two8) rfl rfl 89 L89 R8.out size89 rfl (gv_one _ _ _ _) ?_)
      exact bodyPost_ret (results_grown rfl _ _ R .nilIface rfl (setRow_has R8.out) rfl rfl) rfl ⟨V8, m8, Fr8, _, l8, r8, key8, two8, rfl, P8.out.setRow R8.out rfl _, (I2.out.kt.trans K8.out).setRow_new SR.out.2 _, by have := M8.out; have := M2.out; omega, G8.out⟩
    | true =>
      go_upto_region 19 with fail
      clear c8
      have hmid := HM2.out.2 (by first | rfl | trivial)
      have hroom := ROOM.out
      obtain ⟨v1, hv1⟩ : ∃ u, u = y2.drew := ⟨_, rfl⟩
      have I3 := Lib.hid I2.out.drew
      have O3d := Lib.hid (show NOwn y2.drew w.heap.size vK vV (.slice (some ⟨gC, 0, none⟩) n.kids.length cC) ⟨n.keys, n.vals, n.kids.set k l⟩ from O2.out.below (Below.refl _ _).drew)
      have RG := Lib.hid (show y2.drew.heap[G]? = some (.cells (gv l r key true) 89 (0, 0)) from RG2.out)
      rw [← hv1] at I3 O3d RG
      have HV1 := Lib.hid hv1.symm
      have KL2 := Lib.hid (show k + 1 ≤ (n.kids.set k l).length ∧ (n.kids.set k l).length ≤ 50 by rw [List.length_set]; have := KL.out; omega)
      clear hv1 RG2
      have CD := Lib.hid (fun (w' : World) (h : (fun (t : Bool) (w' : World) => (t = false → w'.heap[N]? = some (.cells #[vK, vV, .slice (some ⟨gC, 0, none⟩) n.kids.length cC] 87 (0, 0))) ∧ w'.heap[G]? = some (.cells (gv l r key true) 89 (0, 0))) false w') => show (fun (t : Bool) (w' : World) => (t = false → w'.heap[N]? = some (.cells #[vK, vV, .slice (some ⟨gC, 0, none⟩) n.kids.length cC] 87 (0, 0))) ∧ w'.heap[G]? = some (.cells (gv l r key true) 89 (0, 0))) true w' from ⟨(fun h => nomatch h), h.2⟩)
      have CS := Lib.hid (show (fun (t : Bool) (w' : World) => (t = false → w'.heap[N]? = some (.cells #[vK, vV, .slice (some ⟨gC, 0, none⟩) n.kids.length cC] 87 (0, 0))) ∧ w'.heap[G]? = some (.cells (gv l r key true) 89 (0, 0))) false v1 from ⟨fun _ => I3.out.nd, RG.out⟩)
      refine k_region [16, 17, 18] (fun (t : Bool) (w' : World) => (t = false → w'.heap[N]? = some (.cells #[vK, vV, .slice (some ⟨gC, 0, none⟩) n.kids.length cC] 87 (0, 0))) ∧ w'.heap[G]? = some (.cells (gv l r key true) 89 (0, 0))) 19 rfl (by kernel_rfl) ?_
      rw [HV1.out]
      refine k_take 0 rfl (some 101) rfl (by kernel_rfl) (by kernel_rfl) (by kernel_rfl) (fun _ _ _ h => h) (by kernel_rfl) (by kernel_rfl) CD.out rfl (fun w' hw' => run_fld87_0 (x := .tmp 10) (d := N) rfl rfl w') CS.out ?_
      simp only [Act.put, List.setIfInBounds_toArray, List.set_cons_succ, List.set_cons_zero]
      refine k_early 1 rfl (some 102) rfl (by kernel_rfl) (by kernel_rfl) (by kernel_rfl) (fun _ _ _ h => h) (by kernel_rfl) (by kernel_rfl) (by kernel_rfl) rfl (fun w' hw' => run_load_slice Tryz.underlying33 (x := .tmp 101) (a := ⟨N, 0, none⟩) rfl rfl (cell_of_row w' N 0 _ 87 (0, 0) (hw'.1 rfl))) CS.out ?_
      simp only [Act.put, List.setIfInBounds_toArray, List.set_cons_succ, List.set_cons_zero]
      refine k_take 2 rfl (some 103) rfl (by kernel_rfl) (by kernel_rfl) (by kernel_rfl) (fun _ _ _ h => h) (by kernel_rfl) (by kernel_rfl) CD.out rfl (fun w' hw' => run_move_is (.tmp 15) (.int .i64 (k : Int)) rfl rfl w') CS.out ?_
      simp only [Act.put, List.setIfInBounds_toArray, List.set_cons_succ, List.set_cons_zero]
      refine k_take 3 rfl (some 104) rfl (by kernel_rfl) (by kernel_rfl) (by kernel_rfl) (fun _ _ _ h => h) (by kernel_rfl) (by kernel_rfl) CD.out rfl (fun w' hw' => run_fld89_2 (x := .tmp 16) (d := G) rfl rfl w') CS.out ?_
      simp only [Act.put, List.setIfInBounds_toArray, List.set_cons_succ, List.set_cons_zero]
      refine k_take 4 rfl (some 105) rfl (by kernel_rfl) (by kernel_rfl) (by kernel_rfl) (fun _ _ _ h => h) (by kernel_rfl) (by kernel_rfl) CD.out rfl (fun w' hw' => run_load_int (x := .tmp 104) rfl Tryz.underlying3 rfl (cell_of_row w' G 2 _ 89 (0, 0) hw'.2)) CS.out ?_
      simp only [Act.put, List.setIfInBounds_toArray, List.set_cons_succ, List.set_cons_zero]
      refine k_take 7 rfl (some 108) rfl (by kernel_rfl) (by kernel_rfl) (by kernel_rfl) (fun _ _ _ h => h) (by kernel_rfl) (by kernel_rfl) CD.out rfl (fun w' hw' => run_fld87_2 (x := .tmp 10) (d := N) rfl rfl w') CS.out ?_
      simp only [Act.put, List.setIfInBounds_toArray, List.set_cons_succ, List.set_cons_zero]
      refine k_early 8 rfl (some 109) rfl (by kernel_rfl) (by kernel_rfl) (by kernel_rfl) (fun _ _ _ h => h) (by kernel_rfl) (by kernel_rfl) (by kernel_rfl) rfl (fun w' hw' => run_load_slice Tryz.underlying33 (x := .tmp 108) (a := ⟨N, 2, none⟩) rfl rfl (cell_of_row w' N 2 _ 87 (0, 0) (hw'.1 rfl))) CS.out ?_
      simp only [Act.put, List.setIfInBounds_toArray, List.set_cons_succ, List.set_cons_zero]
      refine k_take 9 rfl (some 110) rfl (by kernel_rfl) (by kernel_rfl) (by kernel_rfl) (fun _ _ _ h => h) (by kernel_rfl) (by kernel_rfl) CD.out rfl (fun w' hw' => run_move_is (.tmp 15) (.int .i64 (k : Int)) rfl rfl w') CS.out ?_
      simp only [Act.put, List.setIfInBounds_toArray, List.set_cons_succ, List.set_cons_zero]
      refine k_take 10 rfl (some 111) rfl (by kernel_rfl) (by kernel_rfl) (by kernel_rfl) (fun _ _ _ h => h) (by kernel_rfl) (by kernel_rfl) CD.out rfl (fun w' hw' => run_add_is (x := .tmp 110) (y := .const (.int .i64 1)) rfl rfl rfl ((k + 1 : Nat) : Int) (by have := KL.out; omega) w') CS.out ?_
      simp only [Act.put, List.setIfInBounds_toArray, List.set_cons_succ, List.set_cons_zero]
      refine k_take 11 rfl (some 112) rfl (by kernel_rfl) (by kernel_rfl) (by kernel_rfl) (fun _ _ _ h => h) (by kernel_rfl) (by kernel_rfl) CD.out rfl (fun w' hw' => run_fld89_1 (x := .tmp 16) (d := G) rfl rfl w') CS.out ?_
      simp only [Act.put, List.setIfInBounds_toArray, List.set_cons_succ, List.set_cons_zero]
      refine k_take 12 rfl (some 113) rfl (by kernel_rfl) (by kernel_rfl) (by kernel_rfl) (fun _ _ _ h => h) (by kernel_rfl) (by kernel_rfl) CD.out rfl (fun w' hw' => run_load_int (x := .tmp 112) rfl Tryz.underlying3 rfl (cell_of_row w' G 1 _ 89 (0, 0) hw'.2)) CS.out ?_
      simp only [Act.put, List.setIfInBounds_toArray, List.set_cons_succ, List.set_cons_zero]
      refine k_two 5 13 (by kernel_rfl) ?_ ?_
      obtain ⟨a1, ha1⟩ : ∃ u, u = v1.alloc (.cells #[.int .i64 (key : Int)] 3) := ⟨_, rfl⟩
      obtain ⟨X, hX⟩ : ∃ u, u = v1.heap.size := ⟨_, rfl⟩
      have bb : Below v1.heap.size v1 a1 := by rw [ha1]; exact (Below.refl _ _).alloc (Nat.le_refl _) _
      have Ia1 := Lib.hid (I3.out.below bb)
      have Oa1 := Lib.hid (O3d.out.below bb)
      have RX := Lib.hid (show a1.heap[X]? = some (.cells #[.int .i64 (key : Int)] 3 (0, 0)) by rw [ha1, hX]; exact heap_alloc_new _ _)
      have RG' := Lib.hid ((bb.block G (row_lt RG.out)).trans RG.out)
      clear RG
      have RG := RG'
      clear RG'
      have NXK := Lib.hid (show (vK).ownBlock ≠ some X from fun h => by have := (O3d.out.keys.lt _ h).2; omega)
      have Aa1 := Lib.hid (show ∀ (ρ : Operand → Value) (o : Oper), (execOp ρ o).run Tryz.prog v1 = .ok (.value (.slice (some ⟨v1.heap.size, 0, none⟩) 1 1)) (v1.alloc (.cells #[.int .i64 (key : Int)] 3)) → (execOp ρ o).run Tryz.prog v1 = .ok (.value (.slice (some ⟨X, 0, none⟩) 1 1)) a1 from fun ρ o h => by rw [← ha1, ← hX] at h; exact h)
      clear bb ha1 hX
      refine k_val rfl (some 106) rfl rfl false (by kernel_rfl) (Aa1.out _ _ (run_bs33 (x := .tmp 105) rfl rfl _)) ⟨fun _ => Ia1.out.nd, RG.out⟩ ?_
      simp only [Act.put, List.setIfInBounds_toArray, List.set_cons_succ, List.set_cons_zero]
      refine k_two 6 13 (by kernel_rfl) ?_ ?_
      refine k_call rfl (some 107) rfl rfl false (by kernel_rfl) (run_call3 (x := .tmp 102) (y := .tmp 103) (z := .tmp 106) rfl Tryz.call56 rfl rfl rfl _) (insK Ia1.out Oa1.out RX.out NXK.out KL.out.1 KL.out.2.1) ?_
      rintro e a2 ⟨vK2, rfl, hi, ho, hk⟩
      have Ia2 := Lib.hid hi
      have Oa2 := Lib.hid ho
      have RG' := Lib.hid ((hk.block G (row_lt RG.out) (own_ne Oa1.out.keys RG.out (by decide))).trans RG.out)
      clear RG
      have RG := RG'
      clear RG'
      clear hi ho hk
      refine ⟨_, rfl, ⟨fun _ => Ia2.out.nd, RG.out⟩, ?_⟩
      simp only [Act.put, List.setIfInBounds_toArray, List.set_cons_succ, List.set_cons_zero]
      refine k_take 15 rfl (some 116) rfl (by kernel_rfl) (by kernel_rfl) (by kernel_rfl) (fun _ _ _ h => h) (by kernel_rfl) (by kernel_rfl) CD.out rfl (fun w' hw' => run_fld87_0 (x := .tmp 10) (d := N) rfl rfl w') ⟨fun _ => Ia2.out.nd, RG.out⟩ ?_
      simp only [Act.put, List.setIfInBounds_toArray, List.set_cons_succ, List.set_cons_zero]
      refine k_one 13 (by kernel_rfl) ?_
      obtain ⟨a3, ha3⟩ : ∃ u, u = a2.alloc (.cells #[.int .i64 (r : Int)] 3) := ⟨_, rfl⟩
      obtain ⟨Y, hY⟩ : ∃ u, u = a2.heap.size := ⟨_, rfl⟩
      have bb : Below a2.heap.size a2 a3 := by rw [ha3]; exact (Below.refl _ _).alloc (Nat.le_refl _) _
      have Ia3 := Lib.hid (Ia2.out.below bb)
      have Oa3 := Lib.hid (Oa2.out.below bb)
      have RY := Lib.hid (show a3.heap[Y]? = some (.cells #[.int .i64 (r : Int)] 3 (0, 0)) by rw [ha3, hY]; exact heap_alloc_new _ _)
      have RG' := Lib.hid ((bb.block G (row_lt RG.out)).trans RG.out)
      clear RG
      have RG := RG'
      clear RG'
      have NYC := Lib.hid (show ((Value.slice (some ⟨gC, 0, none⟩) n.kids.length cC)).ownBlock ≠ some Y from fun h => by have := (Oa2.out.kids.lt _ h).2; omega)
      have Aa3 := Lib.hid (show ∀ (ρ : Operand → Value) (o : Oper), (execOp ρ o).run Tryz.prog a2 = .ok (.value (.slice (some ⟨a2.heap.size, 0, none⟩) 1 1)) (a2.alloc (.cells #[.int .i64 (r : Int)] 3)) → (execOp ρ o).run Tryz.prog a2 = .ok (.value (.slice (some ⟨Y, 0, none⟩) 1 1)) a3 from fun ρ o h => by rw [← ha3, ← hY] at h; exact h)
      clear bb ha3 hY
      refine k_val rfl (some 114) rfl rfl false (by kernel_rfl) (Aa3.out _ _ (run_bs33 (x := .tmp 113) rfl rfl _)) ⟨fun _ => Ia3.out.nd, RG.out⟩ ?_
      simp only [Act.put, List.setIfInBounds_toArray, List.set_cons_succ, List.set_cons_zero]
      refine k_one 14 (by kernel_rfl) ?_
      refine k_call rfl (some 115) rfl rfl false (by kernel_rfl) (run_call3 (x := .tmp 109) (y := .tmp 111) (z := .tmp 114) rfl Tryz.call56 rfl rfl rfl _) (insC Ia3.out Oa3.out RY.out NYC.out KL2.out.1 KL2.out.2) ?_
      rintro e a4 ⟨vC2, rfl, hi, ho, hk⟩
      have Ia4 := Lib.hid hi
      have Oa4 := Lib.hid ho
      have RG' := Lib.hid ((hk.block G (row_lt RG.out) (own_ne Oa3.out.kids RG.out (by decide))).trans RG.out)
      clear RG
      have RG := RG'
      clear RG'
      clear hi ho hk
      refine ⟨_, rfl, ⟨fun _ => Ia4.out.nd, RG.out⟩, ?_⟩
      simp only [Act.put, List.setIfInBounds_toArray, List.set_cons_succ, List.set_cons_zero]
      obtain ⟨z0, hz0⟩ : ∃ u, u = a4 := ⟨_, rfl⟩
      have IZ := Ia4
      have OZ := Oa4
      rw [← hz0] at IZ OZ RG ⊢
      clear hz0
      rotate_left
      obtain ⟨a2, ha2⟩ : ∃ u, u = a1.alloc (.cells #[.int .i64 (r : Int)] 3) := ⟨_, rfl⟩
      obtain ⟨Y, hY⟩ : ∃ u, u = a1.heap.size := ⟨_, rfl⟩
      have bb : Below a1.heap.size a1 a2 := by rw [ha2]; exact (Below.refl _ _).alloc (Nat.le_refl _) _
      have Ia2 := Lib.hid (Ia1.out.below bb)
      have Oa2 := Lib.hid (Oa1.out.below bb)
      have RY := Lib.hid (show a2.heap[Y]? = some (.cells #[.int .i64 (r : Int)] 3 (0, 0)) by rw [ha2, hY]; exact heap_alloc_new _ _)
      have RG' := Lib.hid ((bb.block G (row_lt RG.out)).trans RG.out)
      clear RG
      have RG := RG'
      clear RG'
      have RX' := Lib.hid ((bb.block X (row_lt RX.out)).trans RX.out)
      clear RX
      have RX := RX'
      clear RX'
      have NYC := Lib.hid (show ((Value.slice (some ⟨gC, 0, none⟩) n.kids.length cC)).ownBlock ≠ some Y from fun h => by have := (Oa1.out.kids.lt _ h).2; omega)
      have NYK := Lib.hid (show (vK).ownBlock ≠ some Y from fun h => by have := (Oa1.out.keys.lt _ h).2; omega)
      have Aa2 := Lib.hid (show ∀ (ρ : Operand → Value) (o : Oper), (execOp ρ o).run Tryz.prog a1 = .ok (.value (.slice (some ⟨a1.heap.size, 0, none⟩) 1 1)) (a1.alloc (.cells #[.int .i64 (r : Int)] 3)) → (execOp ρ o).run Tryz.prog a1 = .ok (.value (.slice (some ⟨Y, 0, none⟩) 1 1)) a2 from fun ρ o h => by rw [← ha2, ← hY] at h; exact h)
      clear bb ha2 hY
      refine k_val rfl (some 114) rfl rfl false (by kernel_rfl) (Aa2.out _ _ (run_bs33 (x := .tmp 113) rfl rfl _)) ⟨fun _ => Ia2.out.nd, RG.out⟩ ?_
      simp only [Act.put, List.setIfInBounds_toArray, List.set_cons_succ, List.set_cons_zero]
      refine k_one 6 (by kernel_rfl) ?_
      refine k_call rfl (some 107) rfl rfl false (by kernel_rfl) (run_call3 (x := .tmp 102) (y := .tmp 103) (z := .tmp 106) rfl Tryz.call56 rfl rfl rfl _) (insK Ia2.out Oa2.out RX.out NXK.out KL.out.1 KL.out.2.1) ?_
      rintro e a3 ⟨vK2, rfl, hi, ho, hk⟩
      have Ia3 := Lib.hid hi
      have Oa3 := Lib.hid ho
      have RG' := Lib.hid ((hk.block G (row_lt RG.out) (own_ne Oa2.out.keys RG.out (by decide))).trans RG.out)
      clear RG
      have RG := RG'
      clear RG'
      have RY' := Lib.hid ((hk.block Y (row_lt RY.out) NYK.out).trans RY.out)
      clear RY
      have RY := RY'
      clear RY'
      clear hi ho hk
      refine ⟨_, rfl, ⟨fun _ => Ia3.out.nd, RG.out⟩, ?_⟩
      simp only [Act.put, List.setIfInBounds_toArray, List.set_cons_succ, List.set_cons_zero]
      refine k_take 15 rfl (some 116) rfl (by kernel_rfl) (by kernel_rfl) (by kernel_rfl) (fun _ _ _ h => h) (by kernel_rfl) (by kernel_rfl) CD.out rfl (fun w' hw' => run_fld87_0 (x := .tmp 10) (d := N) rfl rfl w') ⟨fun _ => Ia3.out.nd, RG.out⟩ ?_
      simp only [Act.put, List.setIfInBounds_toArray, List.set_cons_succ, List.set_cons_zero]
      refine k_one 14 (by kernel_rfl) ?_
      refine k_call rfl (some 115) rfl rfl false (by kernel_rfl) (run_call3 (x := .tmp 109) (y := .tmp 111) (z := .tmp 114) rfl Tryz.call56 rfl rfl rfl _) (insC Ia3.out Oa3.out RY.out NYC.out KL2.out.1 KL2.out.2) ?_
      rintro e a4 ⟨vC2, rfl, hi, ho, hk⟩
      have Ia4 := Lib.hid hi
      have Oa4 := Lib.hid ho
      have RG' := Lib.hid ((hk.block G (row_lt RG.out) (own_ne Oa3.out.kids RG.out (by decide))).trans RG.out)
      clear RG
      have RG := RG'
      clear RG'
      clear hi ho hk
      refine ⟨_, rfl, ⟨fun _ => Ia4.out.nd, RG.out⟩, ?_⟩
      simp only [Act.put, List.setIfInBounds_toArray, List.set_cons_succ, List.set_cons_zero]
      obtain ⟨z0, hz0⟩ : ∃ u, u = a4 := ⟨_, rfl⟩
      have IZ := Ia4
      have OZ := Oa4
      rw [← hz0] at IZ OZ RG ⊢
      clear hz0
      rotate_left
      obtain ⟨a1, ha1⟩ : ∃ u, u = v1.alloc (.cells #[.int .i64 (r : Int)] 3) := ⟨_, rfl⟩
      obtain ⟨Y, hY⟩ : ∃ u, u = v1.heap.size := ⟨_, rfl⟩
      have bb : Below v1.heap.size v1 a1 := by rw [ha1]; exact (Below.refl _ _).alloc (Nat.le_refl _) _
      have Ia1 := Lib.hid (I3.out.below bb)
      have Oa1 := Lib.hid (O3d.out.below bb)
      have RY := Lib.hid (show a1.heap[Y]? = some (.cells #[.int .i64 (r : Int)] 3 (0, 0)) by rw [ha1, hY]; exact heap_alloc_new _ _)
      have RG' := Lib.hid ((bb.block G (row_lt RG.out)).trans RG.out)
      clear RG
      have RG := RG'
      clear RG'
      have NYC := Lib.hid (show ((Value.slice (some ⟨gC, 0, none⟩) n.kids.length cC)).ownBlock ≠ some Y from fun h => by have := (O3d.out.kids.lt _ h).2; omega)
      have NYK := Lib.hid (show (vK).ownBlock ≠ some Y from fun h => by have := (O3d.out.keys.lt _ h).2; omega)
      have Aa1 := Lib.hid (show ∀ (ρ : Operand → Value) (o : Oper), (execOp ρ o).run Tryz.prog v1 = .ok (.value (.slice (some ⟨v1.heap.size, 0, none⟩) 1 1)) (v1.alloc (.cells #[.int .i64 (r : Int)] 3)) → (execOp ρ o).run Tryz.prog v1 = .ok (.value (.slice (some ⟨Y, 0, none⟩) 1 1)) a1 from fun ρ o h => by rw [← ha1, ← hY] at h; exact h)
      clear bb ha1 hY
      refine k_val rfl (some 114) rfl rfl false (by kernel_rfl) (Aa1.out _ _ (run_bs33 (x := .tmp 113) rfl rfl _)) ⟨fun _ => Ia1.out.nd, RG.out⟩ ?_
      simp only [Act.put, List.setIfInBounds_toArray, List.set_cons_succ, List.set_cons_zero]
      refine k_one 5 (by kernel_rfl) ?_
      obtain ⟨a2, ha2⟩ : ∃ u, u = a1.alloc (.cells #[.int .i64 (key : Int)] 3) := ⟨_, rfl⟩
      obtain ⟨X, hX⟩ : ∃ u, u = a1.heap.size := ⟨_, rfl⟩
      have bb : Below a1.heap.size a1 a2 := by rw [ha2]; exact (Below.refl _ _).alloc (Nat.le_refl _) _
      have Ia2 := Lib.hid (Ia1.out.below bb)
      have Oa2 := Lib.hid (Oa1.out.below bb)
      have RX := Lib.hid (show a2.heap[X]? = some (.cells #[.int .i64 (key : Int)] 3 (0, 0)) by rw [ha2, hX]; exact heap_alloc_new _ _)
      have RG' := Lib.hid ((bb.block G (row_lt RG.out)).trans RG.out)
      clear RG
      have RG := RG'
      clear RG'
      have RY' := Lib.hid ((bb.block Y (row_lt RY.out)).trans RY.out)
      clear RY
      have RY := RY'
      clear RY'
      have NXK := Lib.hid (show (vK).ownBlock ≠ some X from fun h => by have := (Oa1.out.keys.lt _ h).2; omega)
      have Aa2 := Lib.hid (show ∀ (ρ : Operand → Value) (o : Oper), (execOp ρ o).run Tryz.prog a1 = .ok (.value (.slice (some ⟨a1.heap.size, 0, none⟩) 1 1)) (a1.alloc (.cells #[.int .i64 (key : Int)] 3)) → (execOp ρ o).run Tryz.prog a1 = .ok (.value (.slice (some ⟨X, 0, none⟩) 1 1)) a2 from fun ρ o h => by rw [← ha2, ← hX] at h; exact h)
      clear bb ha2 hX
      refine k_val rfl (some 106) rfl rfl false (by kernel_rfl) (Aa2.out _ _ (run_bs33 (x := .tmp 105) rfl rfl _)) ⟨fun _ => Ia2.out.nd, RG.out⟩ ?_
      simp only [Act.put, List.setIfInBounds_toArray, List.set_cons_succ, List.set_cons_zero]
      refine k_one 6 (by kernel_rfl) ?_
      refine k_call rfl (some 107) rfl rfl false (by kernel_rfl) (run_call3 (x := .tmp 102) (y := .tmp 103) (z := .tmp 106) rfl Tryz.call56 rfl rfl rfl _) (insK Ia2.out Oa2.out RX.out NXK.out KL.out.1 KL.out.2.1) ?_
      rintro e a3 ⟨vK2, rfl, hi, ho, hk⟩
      have Ia3 := Lib.hid hi
      have Oa3 := Lib.hid ho
      have RG' := Lib.hid ((hk.block G (row_lt RG.out) (own_ne Oa2.out.keys RG.out (by decide))).trans RG.out)
      clear RG
      have RG := RG'
      clear RG'
      have RY' := Lib.hid ((hk.block Y (row_lt RY.out) NYK.out).trans RY.out)
      clear RY
      have RY := RY'
      clear RY'
      clear hi ho hk
      refine ⟨_, rfl, ⟨fun _ => Ia3.out.nd, RG.out⟩, ?_⟩
      simp only [Act.put, List.setIfInBounds_toArray, List.set_cons_succ, List.set_cons_zero]
      refine k_take 15 rfl (some 116) rfl (by kernel_rfl) (by kernel_rfl) (by kernel_rfl) (fun _ _ _ h => h) (by kernel_rfl) (by kernel_rfl) CD.out rfl (fun w' hw' => run_fld87_0 (x := .tmp 10) (d := N) rfl rfl w') ⟨fun _ => Ia3.out.nd, RG.out⟩ ?_
      simp only [Act.put, List.setIfInBounds_toArray, List.set_cons_succ, List.set_cons_zero]
      refine k_one 14 (by kernel_rfl) ?_
      refine k_call rfl (some 115) rfl rfl false (by kernel_rfl) (run_call3 (x := .tmp 109) (y := .tmp 111) (z := .tmp 114) rfl Tryz.call56 rfl rfl rfl _) (insC Ia3.out Oa3.out RY.out NYC.out KL2.out.1 KL2.out.2) ?_
      rintro e a4 ⟨vC2, rfl, hi, ho, hk⟩
      have Ia4 := Lib.hid hi
      have Oa4 := Lib.hid ho
      have RG' := Lib.hid ((hk.block G (row_lt RG.out) (own_ne Oa3.out.kids RG.out (by decide))).trans RG.out)
      clear RG
      have RG := RG'
      clear RG'
      clear hi ho hk
      refine ⟨_, rfl, ⟨fun _ => Ia4.out.nd, RG.out⟩, ?_⟩
      simp only [Act.put, List.setIfInBounds_toArray, List.set_cons_succ, List.set_cons_zero]
      obtain ⟨z0, hz0⟩ : ∃ u, u = a4 := ⟨_, rfl⟩
      have IZ := Ia4
      have OZ := Oa4
      rw [← hz0] at IZ OZ RG ⊢
      clear hz0
      rotate_left
      all_goals
        refine k_one 16 (by kernel_rfl) ?_
        obtain ⟨z1, hz1⟩ : ∃ u, u = z0.setCell ⟨N, 0, none⟩ vK2 := ⟨_, rfl⟩
        obtain ⟨z2, hz2⟩ : ∃ u, u = z1.setCell ⟨N, 2, none⟩ vC2 := ⟨_, rfl⟩
        have i1 := IZ.out.cell 0 vK2
        rw [← hz1] at i1
        have o1 := OZ.out.setN (j := 0) (u := vK2) IZ.out.nd
        rw [← hz1] at o1
        have i2 := i1.cell 2 vC2
        rw [← hz2] at i2
        have o2 := o1.setN (j := 2) (u := vC2) i1.nd
        rw [← hz2] at o2
        have g1 : z1.heap[G]? = some (.cells (gv l r key true) 89 (0, 0)) := by rw [hz1]; exact (heap_setCell_other z0 ⟨N, 0, none⟩ G vK2 (fun e => cells_ne RG.out IZ.out.nd (by decide) e)).trans RG.out
        have G1 := Lib.hid g1
        have G2 := Lib.hid (show z2.heap[G]? = some (.cells (gv l r key true) 89 (0, 0)) by rw [hz2]; exact (heap_setCell_other z1 ⟨N, 2, none⟩ G vC2 (fun e => cells_ne g1 i1.nd (by decide) e)).trans g1)
        have J1 := Lib.hid i1
        have J2 := Lib.hid (show In0 w z2 S R N B P d V' m' s Fr' Go' x b #[vK2, vV, vC2] from i2)
        have Q2 := Lib.hid o2
        have HZ1 := Lib.hid hz1.symm
        have HZ2 := Lib.hid hz2.symm
        have ON1 := Lib.hid (own_one OZ.out.keys)
        have ON2 := Lib.hid (own_one OZ.out.kids)
        clear hz1 hz2 i1 i2 o1 o2 g1
        refine k_skp (w' := z1) rfl rfl rfl true (by kernel_rfl) (by rw [← HZ1.out]; exact run_store_c1 size33 (x := .tmp 116) (y := .tmp 107) rfl rfl rfl ON1.out IZ.out.nd (Nat.zero_lt_succ _)) ⟨(fun h => nomatch h), G1.out⟩ ?_
        refine k_one 17 (by kernel_rfl) ?_
        refine k_val rfl (some 117) rfl rfl true (by kernel_rfl) (run_fld87_2 (x := .tmp 10) (d := N) rfl rfl _) ⟨(fun h => nomatch h), G1.out⟩ ?_
        simp only [Act.put, List.setIfInBounds_toArray, List.set_cons_succ, List.set_cons_zero]
        refine k_one 18 (by kernel_rfl) ?_
        refine k_skp (w' := z2) rfl rfl rfl true (by kernel_rfl) (by rw [← HZ2.out]; exact run_store_c1 size33 (x := .tmp 117) (y := .tmp 115) rfl rfl rfl ON2.out J1.out.nd (Nat.succ_lt_succ (Nat.succ_lt_succ (Nat.zero_lt_succ _)))) ⟨(fun h => nomatch h), G2.out⟩ ?_
        refine k_done (by kernel_rfl) ?_
        go_upto_region 20 with fail
        refine wp_region_lit ?_
        refine l_is (.move (.tmp 0)) rfl rfl (run_move_is (.tmp 0) (.pointer (some ⟨P, 0, none⟩)) rfl rfl _) ?_
        simp only [Act.put, List.setIfInBounds_toArray, List.set_cons_succ, List.set_cons_zero]
        refine l_is (.load 87 (.tmp 10)) rfl rfl (run_ld_node (x := .tmp 10) rfl rfl J2.out.nd) ?_
        simp only [Act.put, List.setIfInBounds_toArray, List.set_cons_succ, List.set_cons_zero]
        go_wp2_with fail
        refine (parted_any J2.out.p _ _ _ _ Q2.out hmid (by have := HM.out; have := M2.out; omega) hroom).mono ?_
        rintro e w8 ⟨V8, m8, Fr8, l8, r8, key8, two8, rfl, hp8, hk8, hm8, hgr⟩
        have R8 := Lib.hid (hk8.cells J2.out.res rfl)
        have P8 := Lib.hid hp8
        have K8 := Lib.hid hk8
        have M8 := Lib.hid hm8
        have G8 := Lib.hid hgr
        clear hp8 hk8 hm8 hgr
        go_wp2_with (refine wpList_store_row rfl 89 (.tmp 8) (.tmp 121) rfl R (gv l8 r8 key8 two8) rfl rfl 89 L89 R8.out size89 rfl (gv_one _ _ _ _) ?_)
        exact bodyPost_ret (results_grown rfl _ _ R .nilIface rfl (setRow_has R8.out) rfl rfl) rfl ⟨V8, m8, Fr8, _, l8, r8, key8, two8, rfl, P8.out.setRow R8.out rfl _, (J2.out.kt.trans K8.out).setRow_new SR.out.2 _, by have := M8.out; have := M2.out; omega, G8.out⟩
end Go.Proofs.YtnlolhlbpdmljaaGreatDoor
