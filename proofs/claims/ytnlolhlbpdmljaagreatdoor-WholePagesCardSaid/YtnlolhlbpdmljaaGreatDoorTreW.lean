/-
  tree.insert and tree.Put.
  Conditions: the tree is low and has few pages.
-/
import Derived.Test.YtnlolhlbpdmljaaGreatDoorTreV
namespace Go.Proofs.YtnlolhlbpdmljaaGreatDoor
open Go.ChangeShapes Go.WideShapes Go.RowKit
theorem insert_any (x : Nat) (b : B8) (hb : b.length = 12) (h32 : x ≤ 4294967295) {B P d : Nat} {s : SupT} : ∀ {h : Nat} {w : World} {V : Nat → B8} {m : Nat} {Fr Go : List Nat} {mn at_ depth lo hi K : Nat} {ps : List Nat}, PAt w B P d V m s Fr Go → Sets0 s.2.2 Fr Go → PTree V h mn at_ lo hi ps K → Pre s.2.2 Go ps → depth + h ≤ 13 → lo ≤ x ∧ x < hi → m + 2 * h < 100000 → cnt (bothP s.2.2 Fr) 240 + 2 * h ≤ 238 →
    Calls Tryz.prog 28 #[.pointer (some ⟨P, 0, none⟩), .int .i64 (at_ : Int), .int .i64 (depth : Int), .agg #[.int .i64 (x : Int), .string (strB b)]] w (Inserted w B P d V m s Fr Go h mn lo hi ps K) := by
  intro h
  induction h with
  | zero => intro _ _ _ _ _ _ _ _ _ _ _ _ _ _ ht; exact ht.elim
  | succ h ih =>
    intro w V m Fr Go mn at_ depth lo hi K ps hp s0 ht pre hd hx hm hc
    obtain ⟨n, ps0, hr, hV, hat, hmn, hk, rfl, hnd, hcont⟩ := ptree_eq.1 ht
    obtain ⟨q1, q2, q3, q4⟩ := pre at_ (List.mem_cons_self ..)
    have hfr : mem Fr at_ = false := by
      cases hq : mem Fr at_ with
      | false => rfl
      | true => rw [s0.fu at_ q1 hq] at q3; cases q3
    by_cases hl : n.kids = []
    · obtain ⟨rfl, _, rfl, rfl⟩ : h = 0 ∧ n.kids = [] ∧ ps0 = [] ∧ K = n.keys.length := hcont.resolve_right (fun h => h.1 hl)
      by_cases hxk : x ∈ n.keys
      · exact insert_found hp at_ depth x b n q1 (by omega) q3 hfr q4 hV hr hl hxk (Mid.set s0 q1 q3 hr hl hk hmn rfl hb) (by omega) (by omega)
      · exact insert_put hp at_ depth x b n q1 (by omega) q3 hfr q4 hV hr hl hxk (Mid.put s0 q1 q3 hr hl hk hmn rfl hxk hx h32 hb) (by omega) (by omega)
    · obtain ⟨psk, Kk, hT, hed, s1, hpk, hkl, hres⟩ := Mid.child s0 pre hnd hr hcont hl hk hmn hx
      exact insert_inner hp at_ depth x b n q1 (by
        cases h with
        | zero => exact hT.elim
        | succ h => omega) q3 hfr q4 hV hr hl rfl rfl hkl (child_le hr.keys.2.2 x) (fun w' hp' => ih hp' s1 hT hpk (by omega) hed (by omega) (by omega)) hres (by omega) (by omega)
section
variable {ρ : Operand → Value} {o : Oper}
theorem run_build87b {x y : Operand} (ho : o.op = .build 87 #[(0, x), (1, y)]) {A A' : Option Addr} {n c n' c' : Nat} (hx : ρ x = .slice A n c) (hy : ρ y = .slice A' n' c') (w : World) : (execOp ρ o).run Tryz.prog w = .ok (.value (.agg #[.slice A n c, .slice A' n' c', nilS])) w := by
  unfold execOp; rw [ho]; simp [hx, hy, go_sem]
theorem run_build87c {x y : Operand} (ho : o.op = .build 87 #[(0, x), (2, y)]) {A A' : Option Addr} {n c n' c' : Nat} (hx : ρ x = .slice A n c) (hy : ρ y = .slice A' n' c') (w : World) : (execOp ρ o).run Tryz.prog w = .ok (.value (.agg #[.slice A n c, nilS, .slice A' n' c'])) w := by
  unfold execOp; rw [ho]; simp [hx, hy, go_sem]
theorem run_bs33_2 {x y : Operand} (ho : o.op = .buildSlice 33 2 #[(0, x), (1, y)]) {k l : Int} (hx : ρ x = .int .i64 k) (hy : ρ y = .int .i64 l) (w : World) : (execOp ρ o).run Tryz.prog w = .ok (.value (.slice (some ⟨w.heap.size, 0, none⟩) 2 2)) (w.alloc (.cells #[.int .i64 k, .int .i64 l] 3)) := by
  unfold execOp
  rw [ho]
  simp [go_sem, hx, hy]
end
section
variable {ops : Array Oper} {rest : List Oper} {o : Oper} {a : Act} {w w' : World} {Q : Exit → Act → World → Prop}
theorem l_go (p : Op) (_hp : o.op = p) (hw : Region.wanted o (yielded ops a.tmps) = true) {u : Value} (hr : (execOp a.eval o).run Tryz.prog w = .ok (.value u) w') (h : wpList Tryz.prog ops Q rest (a.put o.dst u) w') : wpList Tryz.prog ops Q (o :: rest) a w := l_run hw hr h
end
theorem row_lit {w : World} {t X : TypeId} {xs : List Value} (h : w.heap[X]? = some (.cells xs.toArray t (0, 0))) (c : Nat) : RowAt w t (.slice (some ⟨X, 0, none⟩) xs.length c) xs :=
  ⟨_, c, rfl, fun _ => ⟨X, 0, xs.toArray, rfl, h, fun j u hj => by rw [Nat.zero_add, List.getElem?_toArray]; exact hj⟩⟩
/-- tree.Put's answer. -/
def Putted (w : World) (B P d : Nat) (V : Nat → B8) (m : Nat) (s : SupT) (Fr Go : List Nat) (k : Nat) (ps : List Nat) (K : Nat) (e : Ending) (w' : World) : Prop :=
  ∃ (V' : Nat → B8) (m' : Nat) (Fr' Go' : List Nat) (i : Nat) (ps' : List Nat) (K' h' : Nat), e = .returned (.tuple #[.int .i64 (i : Int), .nilIface]) ∧ PAt w' B P d V' m' s Fr' Go' ∧ KT B isPg w w' ∧ m' ≤ m + k ∧ Turn s.2.2 Fr Go V ps Fr' Go' V' ps' ∧ PTree V' h' 1 i 0 4294967296 ps' K' ∧ K' ≤ K + 1
theorem z0 {U F G : List Nat} (q : Sets0 U F G) : mem (bothP U F) 0 = false := by rw [mem_both q.su q.sf 0 (by omega), q.u0.1, q.f0.1]; rfl
theorem Turn.refl {U Fr Go : List Nat} (s : Sets0 U Fr Go) (V : Nat → B8) : Turn U Fr Go V [] Fr Go V [] :=
  ⟨s, fun _ _ _ => rfl, fun _ _ h => h, fun p _ => ⟨fun h => .inl ⟨h, fun h => by cases h⟩, fun h => h.elim (fun h => h.1) (fun h => by cases h)⟩, fun _ h => by cases h⟩
theorem right_leaf {x : Nat} {b : B8} (hb : b.length = 12) (h32 : x ≤ 4294967295) : NRight ⟨[x], [b], []⟩ :=
  ⟨⟨by simp, fun k hk => by simp at hk; omega, by simp⟩, .inl ⟨rfl, rfl, fun v hv => by simp at hv; rw [hv]; exact hb⟩⟩
set_option maxRecDepth 100000 in
set_option maxHeartbeats 4000000 in
theorem put_first {w : World} {B P d : Nat} {V : Nat → B8} {m : Nat} {s : SupT} {Fr Go : List Nat} (hp : PAt w B P d V m s Fr Go) (s0 : Sets0 s.2.2 Fr Go) (x : Nat) (b : B8) (hb : b.length = 12) (h32 : x ≤ 4294967295) (hm : m < 100000) (hc : cnt (bothP s.2.2 Fr) 240 < 238) :
    Calls Tryz.prog 11 #[.pointer (some ⟨P, 0, none⟩), .int .i64 0, .int .i64 (x : Int), .string (strB b)] w (Putted w B P d V m s Fr Go 1 [] 0) := by
  obtain ⟨i, hi⟩ := free_of_cnt (z0 s0) hc
  have hlen : (strB b).size = 12 := by rw [strB_size, hb]
  have h1 : ¬ (x : Int) < 0 := by omega
  have h2 : ¬ (4294967295 : Int) < (x : Int) := by omega
  obtain ⟨X, hX⟩ : ∃ u, u = w.heap.size := ⟨_, rfl⟩
  obtain ⟨W1, hW1⟩ : ∃ u, u = w.alloc (.cells #[.int .i64 (x : Int)] 3) := ⟨_, rfl⟩
  obtain ⟨Y, hY⟩ : ∃ u, u = W1.heap.size := ⟨_, rfl⟩
  obtain ⟨W2, hW2⟩ : ∃ u, u = W1.alloc (.cells #[.string (strB b)] 9) := ⟨_, rfl⟩
  have b1 : Below w.heap.size w W1 := by rw [hW1]; exact (Below.refl _ _).alloc (Nat.le_refl _) _
  have b2 : Below w.heap.size w W2 := by rw [hW2]; exact b1.alloc b1.size _
  have rX : W2.heap[X]? = some (.cells #[.int .i64 (x : Int)] 3 (0, 0)) := by rw [hW2, hW1, hX]; exact heap_alloc2_old _ _ _
  have rY : W2.heap[Y]? = some (.cells #[.string (strB b)] 9 (0, 0)) := by rw [hW2, hY]; exact heap_alloc_new _ _
  have ST := Lib.hid (tstore_any (hp.below b2) (.agg #[.slice (some ⟨X, 0, none⟩) 1 1, .slice (some ⟨Y, 0, none⟩) 1 1, nilS]) ⟨[x], [b], []⟩ ⟨_, _, _, rfl, row_lit (xs := ints [x]) rX 1, row_lit (xs := strs [b]) rY 1, RowAt.nil _ _ _ _⟩ (right_leaf hb h32) hm i hi)
  have KB := Lib.hid (KT.of_below b2 B isPg)
  have T1 := Lib.hid ((Turn.refl s0 V).alloc hi (laidP 2 (nlay ⟨[x], [b], []⟩)) (ps2 := [i]) (fun p => by simp))
  have PT := Lib.hid (show PTree (upd V i (laidP 2 (nlay ⟨[x], [b], []⟩))) 1 1 i 0 4294967296 [i] 1 from ⟨⟨[x], [b], []⟩, [], right_leaf hb h32, by unfold upd; rw [if_pos rfl], ⟨hi.1, hi.2.1⟩, ⟨by simp, by simp⟩, fun k hk => by simp at hk; omega, rfl, by simp, .inl ⟨rfl, rfl, rfl, rfl⟩⟩)
  have A1 := Lib.hid (show ∀ (ρ : Operand → Value) (o : Oper), (execOp ρ o).run Tryz.prog w = .ok (.value (.slice (some ⟨w.heap.size, 0, none⟩) 1 1)) (w.alloc (.cells #[.int .i64 (x : Int)] 3)) → (execOp ρ o).run Tryz.prog w = .ok (.value (.slice (some ⟨X, 0, none⟩) 1 1)) W1 from fun ρ o h => by rw [← hW1, ← hX] at h; exact h)
  have A2 := Lib.hid (show ∀ (ρ : Operand → Value) (o : Oper), (execOp ρ o).run Tryz.prog W1 = .ok (.value (.slice (some ⟨W1.heap.size, 0, none⟩) 1 1)) (W1.alloc (.cells #[.string (strB b)] 9)) → (execOp ρ o).run Tryz.prog W1 = .ok (.value (.slice (some ⟨Y, 0, none⟩) 1 1)) W2 from fun ρ o h => by rw [← hW2, ← hY] at h; exact h)
  clear hp s0 hb h32 hm hc hi hX hW1 hY hW2 b1 b2 rX rY
  go_enter Tryz.func11, Tryz.ntmps11
  go_upto_region 4 with fail
  refine wp_region_lit ?_
  refine l_is (.move (.tmp 0)) rfl rfl (run_move_is (.tmp 0) (.pointer (some ⟨P, 0, none⟩)) rfl rfl _) ?_
  simp only [Act.put, List.setIfInBounds_toArray, List.set_cons_succ, List.set_cons_zero]
  refine l_is (.move (.tmp 2)) rfl rfl (run_move_is (.tmp 2) (.int .i64 (x : Int)) rfl rfl _) ?_
  simp only [Act.put, List.setIfInBounds_toArray, List.set_cons_succ, List.set_cons_zero]
  refine l_go (.buildSlice 33 1 #[(0, .tmp 28)]) rfl rfl (A1.out _ _ (run_bs33 (x := .tmp 28) rfl rfl _)) ?_
  simp only [Act.put, List.setIfInBounds_toArray, List.set_cons_succ, List.set_cons_zero]
  refine l_is (.move (.tmp 3)) rfl rfl (run_move_is (.tmp 3) (.string (strB b)) rfl rfl _) ?_
  simp only [Act.put, List.setIfInBounds_toArray, List.set_cons_succ, List.set_cons_zero]
  refine l_go (.buildSlice 85 1 #[(0, .tmp 30)]) rfl rfl (A2.out _ _ (run_bs85 (x := .tmp 30) rfl rfl _)) ?_
  simp only [Act.put, List.setIfInBounds_toArray, List.set_cons_succ, List.set_cons_zero]
  refine l_is (.build 87 #[(0, .tmp 29), (1, .tmp 31)]) rfl rfl (run_build87b (x := .tmp 29) (y := .tmp 31) rfl rfl rfl _) ?_
  simp only [Act.put, List.setIfInBounds_toArray, List.set_cons_succ, List.set_cons_zero]
  go_wp2_with fail
  refine ST.out.mono ?_
  rintro e w3 ⟨rfl, h3, h4⟩
  have H3 := Lib.hid h3
  have H4 := Lib.hid h4
  clear h3 h4
  go_wp2_with fail
  go_ret2
  exact ⟨_, _, _, _, i, _, _, _, rfl, H3.out, KB.out.trans H4.out, by omega, T1.out, PT.out, by omega⟩
end Go.Proofs.YtnlolhlbpdmljaaGreatDoor
