/-
  The package check: looked, Pages.
  Conditions: it is a tree; its pages are used ones.
-/
import Derived.Test.YtnlolhlbpdmljaaGreatDoorChkC
namespace Go.Proofs.YtnlolhlbpdmljaaGreatDoor
open Go.ChangeShapes Go.WideShapes Go.RowKit Go.Maps Go.Sort Go.Shelf
theorem look_page {L M P B d : Nat} {V : Nat → B8} {m : Nat} {s : SupT} {Fr Go : List Nat} : ∀ {h : Nat} {w : World} {lev : Nat} {T : List Nat} {mn at_ depth lo hi K : Nat} {ps : List Nat}, Lk w w L M P lev T B d V m s Fr Go → PTree V h mn at_ lo hi ps K → (∀ p ∈ ps, mem (usedP s.2.2 Fr Go) p = true) → (∀ p ∈ ps, p ∉ T) → T.length + ps.length ≤ 1000 → depth + h ≤ 13 → (depth ≤ 1 ∨ 3 ≤ mn) → (lev = 0 ∨ lev + 1 = depth + h) →
    Calls Tryz.prog 46 #[.pointer (some ⟨L, 0, none⟩), .int .i64 (at_ : Int), .int .i64 (depth : Int), .int .i64 (lo : Int), .int .i64 (hi : Int)] w fun e w' => e = .returned .nilIface ∧ Lk w w' L M P (depth + h - 1) (T ++ ps) B d V m s Fr Go := by
  intro h
  induction h with
  | zero => intro _ _ _ _ _ _ _ _ _ _ _ ht; exact ht.elim
  | succ h ih =>
    intro w lev T mn at_ depth lo hi K ps hl ht hu hT hsz hd hmn hlev
    obtain ⟨n, ps0, hr, hV, hat, hm, hk, rfl, hnd, hcont⟩ := ptree_eq.1 ht
    rw [List.length_cons] at hsz
    refine look_page_step hl n at_ depth lo hi (depth + (h + 1) - 1) hr hV hat.2 (hu at_ (List.mem_cons_self ..)) hk hm.2 (by omega) (by
      rcases hcont with ⟨rfl, _⟩ | ⟨hkn, pss, Ks, e1, e2, rfl, _, e5⟩
      · omega
      · cases h with
        | zero => exact (e5 0 (by cases hq : n.kids with
          | nil => exact absurd hq hkn
          | cons _ _ => simp)).elim
        | succ h => omega) (hT at_ (List.mem_cons_self ..)) (by omega) ps0 (fun hkn => ?_) (fun hkn w' v hn hlk => ?_)
    · obtain ⟨rfl, _, rfl, _⟩ := hcont.resolve_right (fun q => q.1 hkn)
      exact ⟨rfl, by omega, by omega⟩
    · obtain ⟨_, pss, Ks, e1, e2, rfl, _, e5⟩ := hcont.resolve_left (fun q => hkn q.2.1)
      have hnc := List.nodup_cons.1 hnd
      have hnf := hnc.2
      rw [List.Nodup, List.pairwise_flatten] at hnf
      refine look_kids hlk v n hn hr hkn depth lo hi (depth + (h + 1) - 1) (by omega) (by omega) pss e1 (fun i hi' w2 lev2 hlev2 hlk2 => ?_)
      have hsub : ∀ p ∈ pss.getD i [], p ∈ pss.flatten := fun p hp => mem_getD_flatten hp
      have hlen : (pss.take (i + 1)).flatten = (pss.take i).flatten ++ pss.getD i [] := by
        rw [List.take_add_one, List.flatten_append, List.getD_eq_getElem?_getD, List.getElem?_eq_getElem (by omega)]
        simp
      have hle : (pss.take (i + 1)).flatten.length ≤ pss.flatten.length := by
        have : pss.flatten.length = (pss.take (i + 1)).flatten.length + (pss.drop (i + 1)).flatten.length := by
          rw [← List.length_append, ← List.flatten_append, List.take_append_drop]
        omega
      have hc := ih hlk2 (e5 i hi') (fun p hp => hu p (List.mem_cons_of_mem _ (hsub p hp))) (fun p hp hin => ?_) (by
        rw [hlen, List.length_append] at hle
        rw [List.length_append, List.length_append, List.length_singleton]
        omega) (depth := depth + 1) (by omega) (.inr (Nat.le_refl _)) (by omega)
      · refine hc.mono ?_
        rintro e w3 ⟨rfl, hq⟩
        refine ⟨rfl, ?_⟩
        rw [List.append_assoc, ← hlen, show depth + 1 + h - 1 = depth + (h + 1) - 1 by omega] at hq
        exact hq
      · rcases List.mem_append.1 hin with hin | hin
        · rcases List.mem_append.1 hin with hin | hin
          · exact hT p (List.mem_cons_of_mem _ (hsub p hp)) hin
          · rw [List.mem_singleton] at hin
            subst hin
            exact hnc.1 (hsub p hp)
        · obtain ⟨j, hj, hpj⟩ := mem_flatten_getD hin
          have hji : j < i := by rw [List.length_take] at hj; omega
          rw [List.getD_eq_getElem?_getD, List.getElem?_take, if_pos hji, List.getElem?_eq_getElem (by omega)] at hpj
          rw [List.getD_eq_getElem?_getD, List.getElem?_eq_getElem (by omega)] at hp
          exact List.pairwise_iff_getElem.1 hnf.2 j i (by omega) (by omega) hji p hpj p hp rfl
set_option maxRecDepth 100000 in
set_option maxHeartbeats 1000000 in
/-- check.looked. -/
theorem looked_any {w : World} {P B d : Nat} {V : Nat → B8} {m : Nat} {s : SupT} {Fr Go : List Nat} (hp : PAt w B P d V m s Fr Go) (rt : Nat) (T : List Nat) (hT : (rt = 0 ∧ T = []) ∨ (∃ h K, h ≤ 12 ∧ PTree V h 1 rt 0 4294967296 T K ∧ (∀ p ∈ T, mem (usedP s.2.2 Fr Go) p = true) ∧ T.length ≤ 1000)) :
    Calls Tryz.prog 23 #[.pointer (some ⟨P, 0, none⟩), .int .i64 (rt : Int)] w fun e w' => ∃ L M lev, e = .returned (.tuple #[.pointer (some ⟨L, 0, none⟩), .nilIface]) ∧ Lk w' w' L M P lev T B d V m s Fr Go ∧ Below w.heap.size w w' := by
  have hmm := @run_makeMap Tryz.prog
  obtain ⟨M, hM⟩ : ∃ M, M = w.heap.size := ⟨_, rfl⟩
  obtain ⟨W1, hW1⟩ : ∃ W, W = w.alloc (.map #[] 0) := ⟨_, rfl⟩
  obtain ⟨L, hL⟩ : ∃ M, M = W1.heap.size := ⟨_, rfl⟩
  obtain ⟨W2, hW2⟩ : ∃ W, W = W1.alloc (.cells #[.pointer (some ⟨P, 0, none⟩), .map (some M), .int .i64 0] 81) := ⟨_, rfl⟩
  have b1 : Below w.heap.size w W1 := by rw [hW1]; exact (Below.refl _ _).alloc (Nat.le_refl _) _
  have b2 : Below W1.heap.size W1 W2 := by rw [hW2]; exact (Below.refl _ _).alloc (Nat.le_refl _) _
  have b12 := b1.trans (b2.mono b1.size)
  have m1 : MapS W1 M [] := by rw [hW1, hM]; exact MapS.made w
  have lk2 : Lk W2 W2 L M P 0 [] B d V m s Fr Go := ⟨by rw [hW2, hL]; exact heap_alloc_new _ _, m1.below b2, hp.below b12, Kept.refl _ _⟩
  have LK2 := Lib.hid lk2
  have B2 := Lib.hid b12
  have HM := Lib.hid hM
  have HW1 := Lib.hid hW1
  have HL := Lib.hid (show L = M + 1 by rw [hL, hW1, hM]; simp)
  have HW2 := Lib.hid hW2
  have LOW := Lib.hid (show ∀ q, (q = L ∨ q = M) → w.heap.size ≤ q by
    have := b1.size
    intro q hq
    rcases hq with rfl | rfl <;> omega)
  rcases hT with ⟨rfl, rfl⟩ | ⟨h, K, hh, ht, hu, hlen⟩
  · clear hp hM hW1 hL hW2 b1 b2 b12 m1 lk2
    go_enter Tryz.func23, Tryz.ntmps23
    go_upto_region 2 with fail
    rw [← HW1.out, ← HM.out, ← HL.out, ← HW2.out]
    go_wp2_with fail
    go_ret2
    exact ⟨L, M, 0, rfl, LK2.out, B2.out⟩
  · have hr0 : ¬ rt = 0 := by have := ht.page.2; omega
    have PG := Lib.hid (show Calls Tryz.prog 46 #[.pointer (some ⟨L, 0, none⟩), .int .i64 (rt : Int), .int .i64 1, .int .i64 0, .int .i64 4294967296] W2 fun e w' => e = .returned .nilIface ∧ Lk W2 w' L M P (1 + h - 1) ([] ++ T) B d V m s Fr Go from look_page (depth := 1) lk2 ht hu (fun p _ hq => by cases hq) (by simpa using hlen) (by omega) (.inl (Nat.le_refl _)) (.inl rfl))
    clear hp hM hW1 hL hW2 b1 b2 b12 m1 lk2 ht hu hlen hh
    go_enter Tryz.func23, Tryz.ntmps23
    go_upto_region 2 with fail
    rw [← HW1.out, ← HM.out, ← HL.out, ← HW2.out]
    go_wp2_with fail
    refine PG.out.mono ?_
    rintro e w3 ⟨rfl, hq⟩
    have LQ := Lib.hid hq
    clear hq
    go_wp2_with fail
    go_ret2
    exact ⟨L, M, _, rfl, LQ.out.self, B2.out.trans (kept_below (S := fun q => q = L ∨ q = M) LQ.out.kept B2.out.size (fun q hq => LOW.out q hq))⟩
/-- slices.Sort's two contracts at this dump. -/
theorem sorts_both (m : Nat) : AnyZI.SortsIn Tryz.prog Tryz.laySorted_ren Fence.wide m :=
  ⟨fun blk off cap ss W hH hblk hsz => callsIn_wide.2 (AnyM.slices_Sort_int Tryz.laySort blk off cap ss W hH hblk hsz),
   fun p cap W => callsIn_wide.2 (AnyM.slices_Sort_int_none Tryz.laySort p cap W)⟩
/-- maps.Keys, slices.Sorted of a map's numbers. -/
theorem keys_any (mb : Option Nat) (W : World) : Calls Tryz.prog 25 #[.map mb] W fun e w' => e = .returned (.func (.func 49) #[] #[.pointer (some ⟨W.heap.size, 0, none⟩)]) ∧ w' = W.alloc (.cells #[.map mb] 79) :=
  (callsIn_wide (n := 5)).1 (AnyZI.keys_in Tryz.layKeys Fence.wide 5 trivial rfl mb W)
theorem sorted_any {w : World} {M : Nat} {T : List Nat} (h : MapS w M T) (hT : T.length ≤ 1000) : Calls Tryz.prog 24 #[.func (.func 49) #[] #[.pointer (some ⟨w.heap.size, 0, none⟩)]] (w.alloc (.cells #[.map (some M)] 79)) fun e w' => ∃ (v : Value) (l : List Nat), e = .returned v ∧ l.Perm T ∧ w'.ownsRow w.heap.size 3 1 v l.length (ints l) ∧ Below w.heap.size w w' := by
  obtain ⟨D0, hown, hsize, hperm⟩ := h.perm
  have hbl := hown.lt
  have hseq : SeqGives Fence.wide 2 Tryz.prog 49 #[.pointer (some ⟨w.heap.size, 0, none⟩)] encZ (fun ss => ss.Perm (intKeys D0)) (Maps.size D0) (w.alloc (.cells #[.map (some M)] 79)) :=
    AnyZI.keys_gives (ρ := Tryz.layKeys_ren) { Tryz.layKeys with } Fence.wide _ trivial rfl (by omega) w.heap.size M _ D0 _ (by simp) (by simp) (by
      obtain ⟨es, clock, hb, Ft, hs, hD⟩ := hown
      exact ⟨es, clock, (Below.heap_alloc _ _ M hbl).trans hb, Ft, hs, hD⟩)
  have cS := AnyZI.sorted_in Tryz.laySorted Fence.wide 5 trivial trivial trivial trivial rfl (by omega) (sorts_both _) (enters_of Tryz.func48 (by kernel_rfl) rfl) 49 #[.pointer (some ⟨w.heap.size, 0, none⟩)] trivial (enters_of Tryz.func49 (by kernel_rfl) rfl) _ _ (by rw [hsize]; unfold maxLen; omega) (by rw [hsize]; omega) _ hseq
  change CallsIn _ _ Tryz.prog 24 _ _ _ at cS
  refine ((callsIn_wide (n := 5)).1 cS).mono ?_
  rintro e w' ⟨v, ss, rfl, hS, hrow, _, hb⟩
  have hms := (List.mergeSort_perm ss (fun x y => decide (x ≤ y))).trans (hS.trans hperm.symm)
  have hnn : ∀ x ∈ ss.mergeSort (fun x y => decide (x ≤ y)), ((x.toNat : Nat) : Int) = x := fun x hx => by
    obtain ⟨k, _, rfl⟩ := List.mem_map.1 (hms.mem_iff.1 hx)
    rfl
  have hl : ((ss.mergeSort (fun x y => decide (x ≤ y))).map encZ) = ints ((ss.mergeSort (fun x y => decide (x ≤ y))).map Int.toNat) := by
    unfold ints
    rw [List.map_map]
    exact List.map_congr_left (fun x hx => by
      show Value.int .i64 x = .int .i64 ((x.toNat : Nat) : Int)
      rw [hnn x hx])
  have hlen : ss.length = ((ss.mergeSort (fun x y => decide (x ≤ y))).map Int.toNat).length := by rw [List.length_map, List.length_mergeSort]
  rw [hl, hlen] at hrow
  refine ⟨v, _, rfl, ?_, own_base hrow (by simp), ((Below.refl _ w).alloc (Nat.le_refl _) _).trans (hb.mono (by simp))⟩
  have := hms.map Int.toNat
  rw [List.map_map] at this
  have hid : (Int.toNat ∘ fun k : Nat => (k : Int)) = id := by funext k; simp
  rw [hid, List.map_id] at this
  exact this
set_option maxRecDepth 100000 in
set_option maxHeartbeats 1000000 in
/-- check.Pages. -/
theorem pages_any {w : World} {P B d : Nat} {V : Nat → B8} {m : Nat} {s : SupT} {Fr Go : List Nat} (hp : PAt w B P d V m s Fr Go) (rt : Nat) (T : List Nat) (hlen : T.length ≤ 1000) (hT : (rt = 0 ∧ T = []) ∨ (∃ h K, h ≤ 12 ∧ PTree V h 1 rt 0 4294967296 T K ∧ (∀ p ∈ T, mem (usedP s.2.2 Fr Go) p = true) ∧ T.length ≤ 1000)) :
    Calls Tryz.prog 8 #[.pointer (some ⟨P, 0, none⟩), .int .i64 (rt : Int)] w fun e w' => ∃ (v : Value) (l : List Nat), e = .returned (.tuple #[v, .nilIface]) ∧ l.Perm T ∧ w'.ownsRow w.heap.size 3 1 v l.length (ints l) ∧ Below w.heap.size w w' := by
  have LOOK := Lib.hid (looked_any hp rt T hT)
  have SORT := Lib.hid (fun (w' : World) (M : Nat) (h : MapS w' M T) => sorted_any h hlen)
  clear hp hT hlen
  go_enter Tryz.func8, Tryz.ntmps8
  go_wp2_with fail
  refine LOOK.out.mono ?_
  rintro e w1 ⟨L, M, lev, rfl, hlk, hb⟩
  have LK := Lib.hid hlk
  have B1 := Lib.hid hb
  obtain ⟨_, cL1⟩ := look_cells LK.out
  clear hlk hb
  go_wp2_with fail
  clear cL1
  refine (keys_any (some M) w1).mono ?_
  rintro e w2 ⟨rfl, rfl⟩
  go_wp2_with fail
  refine (SORT.out w1 M LK.out.map).mono ?_
  rintro e w3 ⟨v, l, rfl, hperm, hown, hb3⟩
  have RES := Lib.hid (show l.Perm T ∧ w3.ownsRow w.heap.size 3 1 v l.length (ints l) ∧ Below w.heap.size w w3 from ⟨hperm, own_base hown B1.out.size, B1.out.trans (hb3.mono B1.out.size)⟩)
  clear hperm hown hb3
  go_wp2_with fail
  go_ret2
  exact ⟨v, l, rfl, RES.out.1, RES.out.2.1, RES.out.2.2⟩
end Go.Proofs.YtnlolhlbpdmljaaGreatDoor
