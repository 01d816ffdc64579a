/-
  tree.insert in a leaf that has not got the key.
  Conditions: there is room.
-/
import Derived.Test.YtnlolhlbpdmljaaGreatDoorLate
namespace Go.Proofs.YtnlolhlbpdmljaaGreatDoor
open Go.ChangeShapes Go.WideShapes Go.RowKit
theorem ints_ins (l : List Nat) (k x : Nat) : ints (ins l k x) = (ints l).take k ++ .int .i64 (x : Int) :: (ints l).drop k := by unfold ints ins; simp
theorem strs_ins (l : List B8) (k : Nat) (b : B8) : strs (ins l k b) = (strs l).take k ++ .string (strB b) :: (strs l).drop k := by unfold strs ins; simp
section
variable {w0 w : World} {S R N B P d : Nat} {V : Nat → B8} {m : Nat} {s : SupT} {Fr Go : List Nat} {x : Nat} {b : B8} {cs : Array Value} {vK vV vC : Value} {n : PN}
theorem own_other {w w' : World} {B B' e e' m m' : Nat} {v u : Value} {xs ys : List Value} (ho : w.ownsRow B e 1 v m xs) (_hu : w.ownsRow B' e' 1 u m' ys) (k : Kept (fun q => u.ownBlock = some q) w w') (hne : ∀ q, v.ownBlock = some q → u.ownBlock ≠ some q) : w'.ownsRow B e 1 v m xs :=
  own_row ho (fun q hq => k.block q (ho.lt q hq).2 (hne q hq))
theorem own_types {w : World} {B B' e e' m m' : Nat} {v u : Value} {xs ys : List Value} (ho : w.ownsRow B e 1 v m xs) (hu : w.ownsRow B' e' 1 u m' ys) (he : e ≠ e') : ∀ q, v.ownBlock = some q → u.ownBlock ≠ some q := by
  intro q h1 h2
  rcases ho.2 with ⟨rfl, _⟩ | ⟨g, cap, cur, rfl, _, hh, _⟩
  · cases h1
  · injection h1 with h1
    rcases hu.2 with ⟨rfl, _⟩ | ⟨g', cap', cur', rfl, _, hh', _⟩
    · cases h2
    · injection h2 with h2
      have h1 : g = q := h1
      have h2 : g' = q := h2
      subst h1; subst h2
      rw [hh] at hh'
      injection hh' with hh'
      injection hh' with _ hh' _
      exact he hh'
theorem insK (hi : In0 w0 w S R N B P d V m s Fr Go x b cs) (ho : NOwn w w0.heap.size vK vV vC n) {X u k : Nat} (hX : w.heap[X]? = some (.cells #[.int .i64 (u : Int)] 3 (0, 0))) (hne : vK.ownBlock ≠ some X) (hk : k ≤ n.keys.length) (hn : n.keys.length ≤ 50) :
    Calls Tryz.prog 56 #[vK, .int .i64 (k : Int), .slice (some ⟨X, 0, none⟩) 1 1] w fun e w' => ∃ v', e = .returned v' ∧ In0 w0 w' S R N B P d V m s Fr Go x b cs ∧ NOwn w' w0.heap.size v' vV vC ⟨ins n.keys k u, n.vals, n.kids⟩ ∧ Kept (fun q => vK.ownBlock = some q) w w' := by
  refine (insI_any w w0.heap.size n.keys.length k X vK _ (ints n.keys) ho.keys hk hn hX hne (by have := hi.kt.size; exact this) (ints_one _) rfl).mono ?_
  rintro e w' ⟨v', rfl, h1, h2, h3⟩
  rw [← ints_ins, ← ins_length n.keys k u] at h1
  have hT := rows_own (w0 := w0) ho.keys (.inl rfl) (Nat.le_refl _)
  refine ⟨v', rfl, hi.rows hT h2, ⟨h1, own_other ho.vals ho.keys h2 (own_types ho.vals ho.keys (by decide)), own_other ho.kids ho.keys h2 (fun q h h' => ho.dj q h' h), fun q hq hc => ?_⟩, h2⟩
  rcases h3 with h3 | h3
  · rw [h3] at hq; exact ho.dj q hq hc
  · rw [h3] at hq
    injection hq with hq
    have := (ho.kids.lt q hc).2
    omega
theorem insC (hi : In0 w0 w S R N B P d V m s Fr Go x b cs) (ho : NOwn w w0.heap.size vK vV vC n) {X u k : Nat} (hX : w.heap[X]? = some (.cells #[.int .i64 (u : Int)] 3 (0, 0))) (hne : vC.ownBlock ≠ some X) (hk : k ≤ n.kids.length) (hn : n.kids.length ≤ 50) :
    Calls Tryz.prog 56 #[vC, .int .i64 (k : Int), .slice (some ⟨X, 0, none⟩) 1 1] w fun e w' => ∃ v', e = .returned v' ∧ In0 w0 w' S R N B P d V m s Fr Go x b cs ∧ NOwn w' w0.heap.size vK vV v' ⟨n.keys, n.vals, ins n.kids k u⟩ ∧ Kept (fun q => vC.ownBlock = some q) w w' := by
  refine (insI_any w w0.heap.size n.kids.length k X vC _ (ints n.kids) ho.kids hk hn hX hne (by have := hi.kt.size; exact this) (ints_one _) rfl).mono ?_
  rintro e w' ⟨v', rfl, h1, h2, h3⟩
  rw [← ints_ins, ← ins_length n.kids k u] at h1
  have hT := rows_own (w0 := w0) ho.kids (.inl rfl) (Nat.le_refl _)
  refine ⟨v', rfl, hi.rows hT h2, ⟨own_other ho.keys ho.kids h2 ho.dj, own_other ho.vals ho.kids h2 (own_types ho.vals ho.kids (by decide)), h1, fun q hq hc => ?_⟩, h2⟩
  rcases h3 with h3 | h3
  · rw [h3] at hc; exact ho.dj q hq hc
  · rw [h3] at hc
    injection hc with hc
    have := (ho.keys.lt q hq).2
    omega
theorem insV (hi : In0 w0 w S R N B P d V m s Fr Go x b cs) (ho : NOwn w w0.heap.size vK vV vC n) {X k : Nat} {u : B8} (hX : w.heap[X]? = some (.cells #[.string (strB u)] 9 (0, 0))) (hne : vV.ownBlock ≠ some X) (hk : k ≤ n.vals.length) (hn : n.vals.length ≤ 50) :
    Calls Tryz.prog 57 #[vV, .int .i64 (k : Int), .slice (some ⟨X, 0, none⟩) 1 1] w fun e w' => ∃ v', e = .returned v' ∧ In0 w0 w' S R N B P d V m s Fr Go x b cs ∧ NOwn w' w0.heap.size vK v' vC ⟨n.keys, ins n.vals k u, n.kids⟩ ∧ Kept (fun q => vV.ownBlock = some q) w w' := by
  refine (insS_any w w0.heap.size n.vals.length k X vV _ (strs n.vals) ho.vals hk hn hX hne (by have := hi.kt.size; exact this) (strs_one _) rfl).mono ?_
  rintro e w' ⟨v', rfl, h1, h2, h3⟩
  rw [← strs_ins, ← ins_length n.vals k u] at h1
  have hT := rows_own (w0 := w0) ho.vals (.inr rfl) (Nat.le_refl _)
  exact ⟨v', rfl, hi.rows hT h2, ⟨own_other ho.keys ho.vals h2 (own_types ho.keys ho.vals (by decide)), h1, own_other ho.kids ho.vals h2 (own_types ho.kids ho.vals (by decide)), ho.dj⟩, h2⟩
theorem NOwn.setN {j N : Nat} {u : Value} {cs : Array Value} (ho : NOwn w B vK vV vC n) (hN : w.heap[N]? = some (.cells cs 87 (0, 0))) : NOwn (w.setCell ⟨N, j, none⟩ u) B vK vV vC n :=
  ho.moved (fun q cs' t hq ht => heap_setCell_other w ⟨N, j, none⟩ q u (fun e => by
    have e : q = N := e
    subst e
    rw [hN] at hq
    injection hq with hq
    injection hq with _ hq _
    subst hq
    rcases ht with h | h <;> cases h))
end
theorem own_one {w : World} {B e n : Nat} {v : Value} {xs : List Value} (h : w.ownsRow B e 1 v n xs) : v.oneCell' = true := by
  obtain ⟨A, c, rfl⟩ := own_slice h
  rfl
set_option maxRecDepth 100000 in
set_option maxHeartbeats 8000000 in
theorem insert_put {w : World} {B P d : Nat} {V : Nat → B8} {m : Nat} {s : SupT} {Fr Go : List Nat} (hp : PAt w B P d V m s Fr Go) (at_ depth x : Nat) (b : B8) (n : PN) (hat : at_ < 240) (hdep : depth ≤ 12) (hu : mem s.2.2 at_ = true) (hfr : mem Fr at_ = false) (hgo : mem Go at_ = false) (hV : V at_ = laidP 2 (nlay n)) (hr : NRight n) (hl : n.kids = []) (hx : x ∉ n.keys)
    {mn lo hi : Nat} {ps : List Nat} {K : Nat} (hmid : Mid s.2.2 Fr Go V 0 mn lo hi ps K Fr (withP Go (at_ : Int)) V ⟨ins n.keys (lessN n.keys x) x, ins n.vals (lessN n.keys x) b, n.kids⟩) (hm : m + 2 < 100000) (hroom : cnt (bothP s.2.2 Fr) 240 + 2 ≤ 238) :
    Calls Tryz.prog 28 #[.pointer (some ⟨P, 0, none⟩), .int .i64 (at_ : Int), .int .i64 (depth : Int), .agg #[.int .i64 (x : Int), .string (strB b)]] w (Inserted w B P d V m s Fr Go 1 mn lo hi ps K) := by
  obtain ⟨S, hS⟩ : ∃ S, S = w.heap.size := ⟨_, rfl⟩
  obtain ⟨R, hR⟩ : ∃ S, S = w.heap.size + 1 := ⟨_, rfl⟩
  obtain ⟨W1, hW1⟩ : ∃ W, W = (w.alloc (.cells #[.int .i64 (x : Int), .string (strB b)] 93)).alloc (.cells L89 89) := ⟨_, rfl⟩
  have S1 := Lib.hid (show W1.heap[S]? = some (.cells #[.int .i64 (x : Int), .string (strB b)] 93 (0, 0)) by rw [hW1, hS]; exact heap_alloc2_old _ _ _)
  have R1 := Lib.hid (show W1.heap[R]? = some (.cells L89 89 (0, 0)) by rw [hW1, hR]; exact heap_alloc2_new _ _ _)
  have b1 : Below w.heap.size w W1 := by rw [hW1]; exact ((Below.refl _ _).alloc (Nat.le_refl _) _).alloc (by simp) _
  have B1 := Lib.hid b1
  have SR := Lib.hid (show w.heap.size ≤ S ∧ w.heap.size ≤ R by omega)
  have LD := Lib.hid (tload_any (hp.below b1) at_ depth n hat hdep (by rw [hu]; rfl) hV hr)
  have PD := Lib.hid (show ∀ w', PAt w' B P d V m s Fr Go → _ from fun w' q => pdrop_any q at_ hat hu hfr hgo)
  have HP1 := Lib.hid (hp.below b1)
  have LEAF := Lib.hid leaf_any
  have HS := Lib.hid hS
  have HR := Lib.hid hR
  have HW1 := Lib.hid hW1
  clear hS hR hW1 b1 hp hdep hV hu hfr hgo
  go_enter Tryz.func28, Tryz.ntmps28
  go_upto_region 1 with fail
  rw [← HW1.out, ← HR.out, ← HS.out]
  go_wp2_with fail
  refine LD.out.mono ?_
  rintro e w2 ⟨vK, vV, vC, rfl, ho, hb2⟩
  obtain ⟨N, hN⟩ : ∃ N, N = w2.heap.size := ⟨_, rfl⟩
  obtain ⟨W3, hW3⟩ : ∃ W, W = w2.alloc (.cells #[nilS, nilS, nilS] 87) := ⟨_, rfl⟩
  obtain ⟨U3, hU3⟩ : ∃ W, W = W3.setRow N #[vK, vV, vC] := ⟨_, rfl⟩
  have n3 : W3.heap[N]? = some (.cells #[nilS, nilS, nilS] 87 (0, 0)) := by rw [hW3, hN]; exact heap_alloc_new _ _
  have b3 : Below w2.heap.size w2 W3 := by rw [hW3]; exact (Below.refl _ _).alloc (Nat.le_refl _) _
  have b4 : Below w2.heap.size w2 U3 := by rw [hU3]; exact below_setRow b3 (by omega) _
  have b5 := hb2.trans (b4.mono hb2.size)
  have I3 := Lib.hid (show In0 w U3 S R N B P d V m s Fr Go x b #[vK, vV, vC] from ⟨HP1.out.below b5, (b5.block S (row_lt S1.out)).trans S1.out, (b5.block R (row_lt R1.out)).trans R1.out, by rw [hU3]; exact setRow_has n3, KT.of_below (B1.out.trans (b5.mono B1.out.size)) B isPg, ⟨SR.out.1, SR.out.2, by have := B1.out.size; have := hb2.size; omega⟩, ⟨by have := row_lt S1.out; have := hb2.size; omega, by have := row_lt R1.out; have := hb2.size; omega⟩⟩)
  have O3 := Lib.hid ((ho.base B1.out.size).below b4)
  have ONE := Lib.hid (node_one ho)
  have HN := Lib.hid hN
  have HW3 := Lib.hid hW3
  have HU3 := Lib.hid hU3.symm
  clear hN hW3 hU3 n3 b3 b4 b5 ho hb2
  have N3 := Lib.hid (heap_alloc_new w2 (.cells #[nilS, nilS, nilS] 87))
  go_wp2_with (refine wpList_store_row rfl 87 (.tmp 10) (.tmp 22) rfl w2.heap.size #[vK, vV, vC] rfl rfl 87 #[nilS, nilS, nilS] N3.out size87 rfl ONE.out ?_)
  rw [← HW3.out, ← HN.out, HU3.out]
  refine (PD.out _ I3.out.p).mono ?_
  rintro e w4 ⟨rfl, hp4, hk4⟩
  have I4 := Lib.hid (I3.out.turn hp4 hk4)
  have O4 := Lib.hid (O3.out.kt hk4)
  clear hp4 hk4
  go_upto_region 7 with fail
  refine wp_region_lit ?_
  refine l_is (.load 87 (.tmp 10)) rfl rfl (run_ld_node (x := .tmp 10) rfl rfl I4.out.nd) ?_
  go_wp2_with fail
  refine (LEAF.out w4 _ n O4.out.at).mono ?_
  rintro e w5 ⟨rfl, hb5⟩
  have I5 := Lib.hid (I4.out.below hb5)
  have O5 := Lib.hid (O4.out.below hb5)
  clear hb5
  have hz : decide (n.kids.length = 0) = true := by rw [hl]; rfl
  rw [hz]
  go_upto_region 8 with fail
  have c5 := I5.out.key
  refine wp_region_lit ?_
  refine l_is (.load 87 (.tmp 10)) rfl rfl (run_ld_node (x := .tmp 10) rfl rfl I5.out.nd) ?_
  go_wp2_with fail
  refine (seek_any w5 _ n x O5.out.at hr).mono ?_
  rintro e w6 ⟨rfl, hb6⟩
  have I6 := Lib.hid (I5.out.below hb6)
  have O6 := Lib.hid (O5.out.below hb6)
  clear hb6 c5
  have hxd : decide (x ∈ n.keys) = false := decide_eq_false hx
  rw [hxd]
  obtain ⟨k, hk⟩ : ∃ k, k = lessN n.keys x := ⟨_, rfl⟩
  have h7 := hr.keys.1
  have hkl : k ≤ n.keys.length := by rw [hk]; exact List.countP_le_length
  have hlv : n.vals.length = n.keys.length := by
    rcases hr.shape with ⟨_, h, _⟩ | ⟨_, _, h, _⟩
    · exact h
    · rw [hl] at h; simp at h
  rw [← hk] at hmid ⊢
  have KL := Lib.hid (show k ≤ n.keys.length ∧ n.keys.length ≤ 50 ∧ k ≤ n.vals.length ∧ n.vals.length ≤ 50 by omega)
  clear hxd hz hk hkl hlv h7
  go_upto_region 11 with fail
  have I6d := Lib.hid I6.out.drew
  have O6d := Lib.hid (show NOwn w6.drew w.heap.size vK vV vC n from O6.out.below (Below.refl _ _).drew)
  obtain ⟨v0, hv0⟩ : ∃ u, u = w6.drew := ⟨_, rfl⟩
  rw [← hv0] at I6d O6d
  have HV0 := Lib.hid hv0.symm
  clear hv0
  have CD := Lib.hid (fun (w' : World) (h : (fun (t : Bool) (w' : World) => (t = false → w'.heap[N]? = some (.cells #[vK, vV, vC] 87 (0, 0))) ∧ w'.heap[S]? = some (.cells #[.int .i64 (x : Int), .string (strB b)] 93 (0, 0))) false w') => show (fun (t : Bool) (w' : World) => (t = false → w'.heap[N]? = some (.cells #[vK, vV, vC] 87 (0, 0))) ∧ w'.heap[S]? = some (.cells #[.int .i64 (x : Int), .string (strB b)] 93 (0, 0))) true w' from ⟨(fun h => nomatch h), h.2⟩)
  have CS := Lib.hid (show (fun (t : Bool) (w' : World) => (t = false → w'.heap[N]? = some (.cells #[vK, vV, vC] 87 (0, 0))) ∧ w'.heap[S]? = some (.cells #[.int .i64 (x : Int), .string (strB b)] 93 (0, 0))) false v0 from ⟨fun _ => I6d.out.nd, I6d.out.pair⟩)
  refine k_region [15, 16, 17] (fun (t : Bool) (w' : World) => (t = false → w'.heap[N]? = some (.cells #[vK, vV, vC] 87 (0, 0))) ∧ w'.heap[S]? = some (.cells #[.int .i64 (x : Int), .string (strB b)] 93 (0, 0))) 18 rfl (by kernel_rfl) ?_
  rw [HV0.out]
  refine k_take 0 rfl (some 51) rfl (by kernel_rfl) (by kernel_rfl) (by kernel_rfl) (fun _ _ _ h => h) (by kernel_rfl) (by kernel_rfl) CD.out rfl (fun w' hw' => run_fld87_0 (x := .tmp 10) (d := N) rfl rfl w') CS.out ?_
  simp only [Act.put, List.setIfInBounds_toArray, List.set_cons_succ, List.set_cons_zero]
  refine k_early 1 rfl (some 52) rfl (by kernel_rfl) (by kernel_rfl) (by kernel_rfl) (fun _ _ _ h => h) (by kernel_rfl) (by kernel_rfl) (by kernel_rfl) rfl (fun w' hw' => run_load_slice Tryz.underlying33 (x := .tmp 51) (a := ⟨N, 0, none⟩) rfl rfl (cell_of_row w' N 0 _ 87 (0, 0) (hw'.1 rfl))) CS.out ?_
  simp only [Act.put, List.setIfInBounds_toArray, List.set_cons_succ, List.set_cons_zero]
  refine k_take 2 rfl (some 53) rfl (by kernel_rfl) (by kernel_rfl) (by kernel_rfl) (fun _ _ _ h => h) (by kernel_rfl) (by kernel_rfl) CD.out rfl (fun w' hw' => run_move_is (.tmp 13) (.int .i64 (k : Int)) rfl rfl w') CS.out ?_
  simp only [Act.put, List.setIfInBounds_toArray, List.set_cons_succ, List.set_cons_zero]
  refine k_take 3 rfl (some 54) rfl (by kernel_rfl) (by kernel_rfl) (by kernel_rfl) (fun _ _ _ h => h) (by kernel_rfl) (by kernel_rfl) CD.out rfl (fun w' hw' => run_fld93_0 (x := .tmp 7) (d := S) rfl rfl w') CS.out ?_
  simp only [Act.put, List.setIfInBounds_toArray, List.set_cons_succ, List.set_cons_zero]
  refine k_take 4 rfl (some 55) rfl (by kernel_rfl) (by kernel_rfl) (by kernel_rfl) (fun _ _ _ h => h) (by kernel_rfl) (by kernel_rfl) CD.out rfl (fun w' hw' => run_load_int (x := .tmp 54) rfl Tryz.underlying3 rfl (cell_of_row w' S 0 _ 93 (0, 0) hw'.2)) CS.out ?_
  simp only [Act.put, List.setIfInBounds_toArray, List.set_cons_succ, List.set_cons_zero]
  refine k_take 7 rfl (some 58) rfl (by kernel_rfl) (by kernel_rfl) (by kernel_rfl) (fun _ _ _ h => h) (by kernel_rfl) (by kernel_rfl) CD.out rfl (fun w' hw' => run_fld87_1 (x := .tmp 10) (d := N) rfl rfl w') CS.out ?_
  simp only [Act.put, List.setIfInBounds_toArray, List.set_cons_succ, List.set_cons_zero]
  refine k_early 8 rfl (some 59) rfl (by kernel_rfl) (by kernel_rfl) (by kernel_rfl) (fun _ _ _ h => h) (by kernel_rfl) (by kernel_rfl) (by kernel_rfl) rfl (fun w' hw' => run_load_slice Tryz.underlying85 (x := .tmp 58) (a := ⟨N, 1, none⟩) rfl rfl (cell_of_row w' N 1 _ 87 (0, 0) (hw'.1 rfl))) CS.out ?_
  simp only [Act.put, List.setIfInBounds_toArray, List.set_cons_succ, List.set_cons_zero]
  refine k_take 9 rfl (some 60) rfl (by kernel_rfl) (by kernel_rfl) (by kernel_rfl) (fun _ _ _ h => h) (by kernel_rfl) (by kernel_rfl) CD.out rfl (fun w' hw' => run_move_is (.tmp 13) (.int .i64 (k : Int)) rfl rfl w') CS.out ?_
  simp only [Act.put, List.setIfInBounds_toArray, List.set_cons_succ, List.set_cons_zero]
  refine k_take 10 rfl (some 61) rfl (by kernel_rfl) (by kernel_rfl) (by kernel_rfl) (fun _ _ _ h => h) (by kernel_rfl) (by kernel_rfl) CD.out rfl (fun w' hw' => run_fld93_1 (x := .tmp 7) (d := S) rfl rfl w') CS.out ?_
  simp only [Act.put, List.setIfInBounds_toArray, List.set_cons_succ, List.set_cons_zero]
  refine k_take 11 rfl (some 62) rfl (by kernel_rfl) (by kernel_rfl) (by kernel_rfl) (fun _ _ _ h => h) (by kernel_rfl) (by kernel_rfl) CD.out rfl (fun w' hw' => run_load_str (x := .tmp 61) (a := ⟨S, 1, none⟩) rfl rfl (cell_of_row w' S 1 _ 93 (0, 0) hw'.2)) CS.out ?_
  simp only [Act.put, List.setIfInBounds_toArray, List.set_cons_succ, List.set_cons_zero]
  refine k_two 5 12 (by kernel_rfl) ?_ ?_
  obtain ⟨a1, ha1⟩ : ∃ u, u = v0.alloc (.cells #[.int .i64 (x : Int)] 3) := ⟨_, rfl⟩
  obtain ⟨X, hX⟩ : ∃ u, u = v0.heap.size := ⟨_, rfl⟩
  have bb : Below v0.heap.size v0 a1 := by rw [ha1]; exact (Below.refl _ _).alloc (Nat.le_refl _) _
  have Ia1 := Lib.hid (I6d.out.below bb)
  have Oa1 := Lib.hid (O6d.out.below bb)
  have RX := Lib.hid (show a1.heap[X]? = some (.cells #[.int .i64 (x : Int)] 3 (0, 0)) by rw [ha1, hX]; exact heap_alloc_new _ _)
  have NXK := Lib.hid (show (vK).ownBlock ≠ some X from fun h => by have := (O6d.out.keys.lt _ h).2; omega)
  have Aa1 := Lib.hid (show ∀ (ρ : Operand → Value) (o : Oper), (execOp ρ o).run Tryz.prog v0 = .ok (.value (.slice (some ⟨v0.heap.size, 0, none⟩) 1 1)) (v0.alloc (.cells #[.int .i64 (x : Int)] 3)) → (execOp ρ o).run Tryz.prog v0 = .ok (.value (.slice (some ⟨X, 0, none⟩) 1 1)) a1 from fun ρ o h => by rw [← ha1, ← hX] at h; exact h)
  clear bb ha1 hX
  refine k_val rfl (some 56) rfl rfl false (by kernel_rfl) (Aa1.out _ _ (run_bs33 (x := .tmp 55) rfl rfl _)) ⟨fun _ => Ia1.out.nd, Ia1.out.pair⟩ ?_
  simp only [Act.put, List.setIfInBounds_toArray, List.set_cons_succ, List.set_cons_zero]
  refine k_two 6 12 (by kernel_rfl) ?_ ?_
  refine k_call rfl (some 57) rfl rfl false (by kernel_rfl) (run_call3 (x := .tmp 52) (y := .tmp 53) (z := .tmp 56) rfl Tryz.call56 rfl rfl rfl _) (insK Ia1.out Oa1.out RX.out NXK.out KL.out.1 KL.out.2.1) ?_
  rintro e a2 ⟨vK2, rfl, hi, ho, hk⟩
  have Ia2 := Lib.hid hi
  have Oa2 := Lib.hid ho
  clear hi ho hk
  refine ⟨_, rfl, ⟨fun _ => Ia2.out.nd, Ia2.out.pair⟩, ?_⟩
  simp only [Act.put, List.setIfInBounds_toArray, List.set_cons_succ, List.set_cons_zero]
  refine k_take 14 rfl (some 65) rfl (by kernel_rfl) (by kernel_rfl) (by kernel_rfl) (fun _ _ _ h => h) (by kernel_rfl) (by kernel_rfl) CD.out rfl (fun w' hw' => run_fld87_0 (x := .tmp 10) (d := N) rfl rfl w') ⟨fun _ => Ia2.out.nd, Ia2.out.pair⟩ ?_
  simp only [Act.put, List.setIfInBounds_toArray, List.set_cons_succ, List.set_cons_zero]
  refine k_one 12 (by kernel_rfl) ?_
  obtain ⟨a3, ha3⟩ : ∃ u, u = a2.alloc (.cells #[.string (strB b)] 9) := ⟨_, rfl⟩
  obtain ⟨Y, hY⟩ : ∃ u, u = a2.heap.size := ⟨_, rfl⟩
  have bb : Below a2.heap.size a2 a3 := by rw [ha3]; exact (Below.refl _ _).alloc (Nat.le_refl _) _
  have Ia3 := Lib.hid (Ia2.out.below bb)
  have Oa3 := Lib.hid (Oa2.out.below bb)
  have RY := Lib.hid (show a3.heap[Y]? = some (.cells #[.string (strB b)] 9 (0, 0)) by rw [ha3, hY]; exact heap_alloc_new _ _)
  have NYV := Lib.hid (show (vV).ownBlock ≠ some Y from fun h => by have := (Oa2.out.vals.lt _ h).2; omega)
  have Aa3 := Lib.hid (show ∀ (ρ : Operand → Value) (o : Oper), (execOp ρ o).run Tryz.prog a2 = .ok (.value (.slice (some ⟨a2.heap.size, 0, none⟩) 1 1)) (a2.alloc (.cells #[.string (strB b)] 9)) → (execOp ρ o).run Tryz.prog a2 = .ok (.value (.slice (some ⟨Y, 0, none⟩) 1 1)) a3 from fun ρ o h => by rw [← ha3, ← hY] at h; exact h)
  clear bb ha3 hY
  refine k_val rfl (some 63) rfl rfl false (by kernel_rfl) (Aa3.out _ _ (run_bs85 (x := .tmp 62) rfl rfl _)) ⟨fun _ => Ia3.out.nd, Ia3.out.pair⟩ ?_
  simp only [Act.put, List.setIfInBounds_toArray, List.set_cons_succ, List.set_cons_zero]
  refine k_one 13 (by kernel_rfl) ?_
  refine k_call rfl (some 64) rfl rfl false (by kernel_rfl) (run_call3 (x := .tmp 59) (y := .tmp 60) (z := .tmp 63) rfl Tryz.call57 rfl rfl rfl _) (insV Ia3.out Oa3.out RY.out NYV.out KL.out.2.2.1 KL.out.2.2.2) ?_
  rintro e a4 ⟨vV2, rfl, hi, ho, hk⟩
  have Ia4 := Lib.hid hi
  have Oa4 := Lib.hid ho
  clear hi ho hk
  refine ⟨_, rfl, ⟨fun _ => Ia4.out.nd, Ia4.out.pair⟩, ?_⟩
  simp only [Act.put, List.setIfInBounds_toArray, List.set_cons_succ, List.set_cons_zero]
  obtain ⟨y0, hy0⟩ : ∃ u, u = a4 := ⟨_, rfl⟩
  have IY := Ia4
  have OY := Oa4
  rw [← hy0] at IY OY ⊢
  clear hy0
  rotate_left
  obtain ⟨a2, ha2⟩ : ∃ u, u = a1.alloc (.cells #[.string (strB b)] 9) := ⟨_, rfl⟩
  obtain ⟨Y, hY⟩ : ∃ u, u = a1.heap.size := ⟨_, rfl⟩
  have bb : Below a1.heap.size a1 a2 := by rw [ha2]; exact (Below.refl _ _).alloc (Nat.le_refl _) _
  have Ia2 := Lib.hid (Ia1.out.below bb)
  have Oa2 := Lib.hid (Oa1.out.below bb)
  have RY := Lib.hid (show a2.heap[Y]? = some (.cells #[.string (strB b)] 9 (0, 0)) by rw [ha2, hY]; exact heap_alloc_new _ _)
  have RX' := Lib.hid ((bb.block X (row_lt RX.out)).trans RX.out)
  clear RX
  have RX := RX'
  clear RX'
  have NYV := Lib.hid (show (vV).ownBlock ≠ some Y from fun h => by have := (Oa1.out.vals.lt _ h).2; omega)
  have NYK := Lib.hid (show (vK).ownBlock ≠ some Y from fun h => by have := (Oa1.out.keys.lt _ h).2; omega)
  have Aa2 := Lib.hid (show ∀ (ρ : Operand → Value) (o : Oper), (execOp ρ o).run Tryz.prog a1 = .ok (.value (.slice (some ⟨a1.heap.size, 0, none⟩) 1 1)) (a1.alloc (.cells #[.string (strB b)] 9)) → (execOp ρ o).run Tryz.prog a1 = .ok (.value (.slice (some ⟨Y, 0, none⟩) 1 1)) a2 from fun ρ o h => by rw [← ha2, ← hY] at h; exact h)
  clear bb ha2 hY
  refine k_val rfl (some 63) rfl rfl false (by kernel_rfl) (Aa2.out _ _ (run_bs85 (x := .tmp 62) rfl rfl _)) ⟨fun _ => Ia2.out.nd, Ia2.out.pair⟩ ?_
  simp only [Act.put, List.setIfInBounds_toArray, List.set_cons_succ, List.set_cons_zero]
  refine k_one 6 (by kernel_rfl) ?_
  refine k_call rfl (some 57) rfl rfl false (by kernel_rfl) (run_call3 (x := .tmp 52) (y := .tmp 53) (z := .tmp 56) rfl Tryz.call56 rfl rfl rfl _) (insK Ia2.out Oa2.out RX.out NXK.out KL.out.1 KL.out.2.1) ?_
  rintro e a3 ⟨vK2, rfl, hi, ho, hk⟩
  have Ia3 := Lib.hid hi
  have Oa3 := Lib.hid ho
  have RY' := Lib.hid ((hk.block Y (row_lt RY.out) NYK.out).trans RY.out)
  clear RY
  have RY := RY'
  clear RY'
  clear hi ho hk
  refine ⟨_, rfl, ⟨fun _ => Ia3.out.nd, Ia3.out.pair⟩, ?_⟩
  simp only [Act.put, List.setIfInBounds_toArray, List.set_cons_succ, List.set_cons_zero]
  refine k_take 14 rfl (some 65) rfl (by kernel_rfl) (by kernel_rfl) (by kernel_rfl) (fun _ _ _ h => h) (by kernel_rfl) (by kernel_rfl) CD.out rfl (fun w' hw' => run_fld87_0 (x := .tmp 10) (d := N) rfl rfl w') ⟨fun _ => Ia3.out.nd, Ia3.out.pair⟩ ?_
  simp only [Act.put, List.setIfInBounds_toArray, List.set_cons_succ, List.set_cons_zero]
  refine k_one 13 (by kernel_rfl) ?_
  refine k_call rfl (some 64) rfl rfl false (by kernel_rfl) (run_call3 (x := .tmp 59) (y := .tmp 60) (z := .tmp 63) rfl Tryz.call57 rfl rfl rfl _) (insV Ia3.out Oa3.out RY.out NYV.out KL.out.2.2.1 KL.out.2.2.2) ?_
  rintro e a4 ⟨vV2, rfl, hi, ho, hk⟩
  have Ia4 := Lib.hid hi
  have Oa4 := Lib.hid ho
  clear hi ho hk
  refine ⟨_, rfl, ⟨fun _ => Ia4.out.nd, Ia4.out.pair⟩, ?_⟩
  simp only [Act.put, List.setIfInBounds_toArray, List.set_cons_succ, List.set_cons_zero]
  obtain ⟨y0, hy0⟩ : ∃ u, u = a4 := ⟨_, rfl⟩
  have IY := Ia4
  have OY := Oa4
  rw [← hy0] at IY OY ⊢
  clear hy0
  rotate_left
  obtain ⟨a1, ha1⟩ : ∃ u, u = v0.alloc (.cells #[.string (strB b)] 9) := ⟨_, rfl⟩
  obtain ⟨Y, hY⟩ : ∃ u, u = v0.heap.size := ⟨_, rfl⟩
  have bb : Below v0.heap.size v0 a1 := by rw [ha1]; exact (Below.refl _ _).alloc (Nat.le_refl _) _
  have Ia1 := Lib.hid (I6d.out.below bb)
  have Oa1 := Lib.hid (O6d.out.below bb)
  have RY := Lib.hid (show a1.heap[Y]? = some (.cells #[.string (strB b)] 9 (0, 0)) by rw [ha1, hY]; exact heap_alloc_new _ _)
  have NYV := Lib.hid (show (vV).ownBlock ≠ some Y from fun h => by have := (O6d.out.vals.lt _ h).2; omega)
  have NYK := Lib.hid (show (vK).ownBlock ≠ some Y from fun h => by have := (O6d.out.keys.lt _ h).2; omega)
  have Aa1 := Lib.hid (show ∀ (ρ : Operand → Value) (o : Oper), (execOp ρ o).run Tryz.prog v0 = .ok (.value (.slice (some ⟨v0.heap.size, 0, none⟩) 1 1)) (v0.alloc (.cells #[.string (strB b)] 9)) → (execOp ρ o).run Tryz.prog v0 = .ok (.value (.slice (some ⟨Y, 0, none⟩) 1 1)) a1 from fun ρ o h => by rw [← ha1, ← hY] at h; exact h)
  clear bb ha1 hY
  refine k_val rfl (some 63) rfl rfl false (by kernel_rfl) (Aa1.out _ _ (run_bs85 (x := .tmp 62) rfl rfl _)) ⟨fun _ => Ia1.out.nd, Ia1.out.pair⟩ ?_
  simp only [Act.put, List.setIfInBounds_toArray, List.set_cons_succ, List.set_cons_zero]
  refine k_one 5 (by kernel_rfl) ?_
  obtain ⟨a2, ha2⟩ : ∃ u, u = a1.alloc (.cells #[.int .i64 (x : Int)] 3) := ⟨_, rfl⟩
  obtain ⟨X, hX⟩ : ∃ u, u = a1.heap.size := ⟨_, rfl⟩
  have bb : Below a1.heap.size a1 a2 := by rw [ha2]; exact (Below.refl _ _).alloc (Nat.le_refl _) _
  have Ia2 := Lib.hid (Ia1.out.below bb)
  have Oa2 := Lib.hid (Oa1.out.below bb)
  have RX := Lib.hid (show a2.heap[X]? = some (.cells #[.int .i64 (x : Int)] 3 (0, 0)) by rw [ha2, hX]; exact heap_alloc_new _ _)
  have RY' := Lib.hid ((bb.block Y (row_lt RY.out)).trans RY.out)
  clear RY
  have RY := RY'
  clear RY'
  have NXK := Lib.hid (show (vK).ownBlock ≠ some X from fun h => by have := (Oa1.out.keys.lt _ h).2; omega)
  have Aa2 := Lib.hid (show ∀ (ρ : Operand → Value) (o : Oper), (execOp ρ o).run Tryz.prog a1 = .ok (.value (.slice (some ⟨a1.heap.size, 0, none⟩) 1 1)) (a1.alloc (.cells #[.int .i64 (x : Int)] 3)) → (execOp ρ o).run Tryz.prog a1 = .ok (.value (.slice (some ⟨X, 0, none⟩) 1 1)) a2 from fun ρ o h => by rw [← ha2, ← hX] at h; exact h)
  clear bb ha2 hX
  refine k_val rfl (some 56) rfl rfl false (by kernel_rfl) (Aa2.out _ _ (run_bs33 (x := .tmp 55) rfl rfl _)) ⟨fun _ => Ia2.out.nd, Ia2.out.pair⟩ ?_
  simp only [Act.put, List.setIfInBounds_toArray, List.set_cons_succ, List.set_cons_zero]
  refine k_one 6 (by kernel_rfl) ?_
  refine k_call rfl (some 57) rfl rfl false (by kernel_rfl) (run_call3 (x := .tmp 52) (y := .tmp 53) (z := .tmp 56) rfl Tryz.call56 rfl rfl rfl _) (insK Ia2.out Oa2.out RX.out NXK.out KL.out.1 KL.out.2.1) ?_
  rintro e a3 ⟨vK2, rfl, hi, ho, hk⟩
  have Ia3 := Lib.hid hi
  have Oa3 := Lib.hid ho
  have RY' := Lib.hid ((hk.block Y (row_lt RY.out) NYK.out).trans RY.out)
  clear RY
  have RY := RY'
  clear RY'
  clear hi ho hk
  refine ⟨_, rfl, ⟨fun _ => Ia3.out.nd, Ia3.out.pair⟩, ?_⟩
  simp only [Act.put, List.setIfInBounds_toArray, List.set_cons_succ, List.set_cons_zero]
  refine k_take 14 rfl (some 65) rfl (by kernel_rfl) (by kernel_rfl) (by kernel_rfl) (fun _ _ _ h => h) (by kernel_rfl) (by kernel_rfl) CD.out rfl (fun w' hw' => run_fld87_0 (x := .tmp 10) (d := N) rfl rfl w') ⟨fun _ => Ia3.out.nd, Ia3.out.pair⟩ ?_
  simp only [Act.put, List.setIfInBounds_toArray, List.set_cons_succ, List.set_cons_zero]
  refine k_one 13 (by kernel_rfl) ?_
  refine k_call rfl (some 64) rfl rfl false (by kernel_rfl) (run_call3 (x := .tmp 59) (y := .tmp 60) (z := .tmp 63) rfl Tryz.call57 rfl rfl rfl _) (insV Ia3.out Oa3.out RY.out NYV.out KL.out.2.2.1 KL.out.2.2.2) ?_
  rintro e a4 ⟨vV2, rfl, hi, ho, hk⟩
  have Ia4 := Lib.hid hi
  have Oa4 := Lib.hid ho
  clear hi ho hk
  refine ⟨_, rfl, ⟨fun _ => Ia4.out.nd, Ia4.out.pair⟩, ?_⟩
  simp only [Act.put, List.setIfInBounds_toArray, List.set_cons_succ, List.set_cons_zero]
  obtain ⟨y0, hy0⟩ : ∃ u, u = a4 := ⟨_, rfl⟩
  have IY := Ia4
  have OY := Oa4
  rw [← hy0] at IY OY ⊢
  clear hy0
  rotate_left
  all_goals
    refine k_one 15 (by kernel_rfl) ?_
    obtain ⟨y1, hy1⟩ : ∃ u, u = y0.setCell ⟨N, 0, none⟩ vK2 := ⟨_, rfl⟩
    obtain ⟨y2, hy2⟩ : ∃ u, u = y1.setCell ⟨N, 1, none⟩ vV2 := ⟨_, rfl⟩
    have i1 := IY.out.cell 0 vK2
    rw [← hy1] at i1
    have o1 := OY.out.setN (j := 0) (u := vK2) IY.out.nd
    rw [← hy1] at o1
    have i2 := i1.cell 1 vV2
    rw [← hy2] at i2
    have o2 := o1.setN (j := 1) (u := vV2) i1.nd
    rw [← hy2] at o2
    have I1 := Lib.hid (show In0 w y1 S R N B P d V m s Fr (withP Go (at_ : Int)) x b #[vK2, vV, vC] from i1)
    have I2 := Lib.hid (show In0 w y2 S R N B P d V m s Fr (withP Go (at_ : Int)) x b #[vK2, vV2, vC] from i2)
    have O2 := Lib.hid o2
    have HY1 := Lib.hid hy1.symm
    have HY2 := Lib.hid hy2.symm
    have ON1 := Lib.hid (own_one OY.out.keys)
    have ON2 := Lib.hid (own_one OY.out.vals)
    clear hy1 hy2 i1 i2 o1 o2
    refine k_skp (w' := y1) rfl rfl rfl true (by kernel_rfl) (by rw [← HY1.out]; exact run_store_c1 size33 (x := .tmp 65) (y := .tmp 57) rfl rfl rfl ON1.out IY.out.nd (Nat.zero_lt_succ _)) ⟨(fun h => nomatch h), I1.out.pair⟩ ?_
    refine k_one 16 (by kernel_rfl) ?_
    refine k_val rfl (some 66) rfl rfl true (by kernel_rfl) (run_fld87_1 (x := .tmp 10) (d := N) rfl rfl _) ⟨(fun h => nomatch h), I1.out.pair⟩ ?_
    simp only [Act.put, List.setIfInBounds_toArray, List.set_cons_succ, List.set_cons_zero]
    refine k_one 17 (by kernel_rfl) ?_
    refine k_skp (w' := y2) rfl rfl rfl true (by kernel_rfl) (by rw [← HY2.out]; exact run_store_c1 size85 (x := .tmp 66) (y := .tmp 64) rfl rfl rfl ON2.out I1.out.nd (Nat.succ_lt_succ (Nat.zero_lt_succ _))) ⟨(fun h => nomatch h), I2.out.pair⟩ ?_
    refine k_done (by kernel_rfl) ?_
    go_upto_region 12 with fail
    refine wp_region_lit ?_
    refine l_is (.move (.tmp 0)) rfl rfl (run_move_is (.tmp 0) (.pointer (some ⟨P, 0, none⟩)) rfl rfl _) ?_
    simp only [Act.put, List.setIfInBounds_toArray, List.set_cons_succ, List.set_cons_zero]
    refine l_is (.load 87 (.tmp 10)) rfl rfl (run_ld_node (x := .tmp 10) rfl rfl I2.out.nd) ?_
    simp only [Act.put, List.setIfInBounds_toArray, List.set_cons_succ, List.set_cons_zero]
    go_wp2_with fail
    refine (parted_any I2.out.p _ _ _ _ O2.out hmid (by omega) hroom).mono ?_
    rintro e w8 ⟨V', m', Fr', l, r, key, two, rfl, hp8, hk8, hm8, hgr⟩
    have R8 := Lib.hid (hk8.cells I2.out.res rfl)
    have P8 := Lib.hid hp8
    have K8 := Lib.hid hk8
    have M8 := Lib.hid hm8
    have G8 := Lib.hid hgr
    clear hp8 hk8 hm8 hgr
    go_wp2_with (refine wpList_store_row rfl 89 (.tmp 8) (.tmp 70) rfl R (gv l r key two) rfl rfl 89 L89 R8.out size89 rfl (gv_one _ _ _ _) ?_)
    exact bodyPost_ret (results_grown rfl _ _ R .nilIface rfl (setRow_has R8.out) rfl rfl) rfl ⟨V', m', Fr', _, l, r, key, two, rfl, P8.out.setRow R8.out rfl _, (I2.out.kt.trans K8.out).setRow_new SR.out.2 _, by have := M8.out; omega, G8.out⟩
end Go.Proofs.YtnlolhlbpdmljaaGreatDoor
