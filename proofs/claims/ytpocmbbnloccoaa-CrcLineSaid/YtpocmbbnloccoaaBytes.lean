/-
  A row of bytes in memory, told of by a list; a text's bytes made such a row, and back.
  Conditions: none.
-/
import Derived.Test.YtpocmbbnloccoaaClass
import Derived.Lib.ConvBytes
import Derived.Laws.BytesArg
namespace Go.Proofs.Ytpocmbbnloccoaa
open Go.ChangeShapes Go.WideShapes Go.ChangeAt Go.RowKit

/-- The block g begins with these bytes; none of them is frozen. -/
structure TRow (w : World) (g : Nat) (L : List UInt8) : Prop where
  cell : ∀ j, j < L.length → w.cell? ⟨g, j, none⟩ = some (.int .u8 (((L.getD j 0).toNat : Nat) : Int))
  free : ∀ j, j < L.length → w.frozen? ⟨g, j, none⟩ = false
  lt : g < w.heap.size

theorem TRow.later {B : Nat} {W w : World} {g : Nat} {L : List UInt8} (h : TRow W g L) (hb : Below B W w) (hg : g < B) : TRow w g L :=
  ⟨fun j hj => (hb.cell (p := ⟨g, j, none⟩) hg).trans (h.cell j hj), fun j hj => (hb.frozen (p := ⟨g, j, none⟩) hg).trans (h.free j hj), Nat.lt_of_lt_of_le h.lt hb.size⟩
theorem TRow.drew {w : World} {g : Nat} {L : List UInt8} (h : TRow w g L) : TRow w.drew g L := ⟨h.cell, h.free, h.lt⟩
theorem TRow.set {w : World} {g : Nat} {L : List UInt8} (h : TRow w g L) (i : Nat) (hi : i < L.length) (b : UInt8) : TRow (w.setCell ⟨g, i, none⟩ (.int .u8 ((b.toNat : Nat) : Int))) g (L.set i b) := by
  refine ⟨fun j hj => ?_, fun j hj => ?_, by simpa using h.lt⟩
  · rw [List.length_set] at hj
    have h1 := h.cell i hi
    by_cases e : i = j
    · subst e
      rw [World.cell?_setCell_same' _ _ _ (by rw [h1]; rfl)]
      simp [hi]
    · rw [World.cell?_setCell_other _ _ _ _ (by simp), h.cell j hj]
      simp [e]
  · rw [List.length_set] at hj
    rw [World.frozen?_setCell]
    exact h.free j hj

theorem bytes_below (w : World) (e : TypeId) (s : ByteArray) : Below w.heap.size w (Lib.bytesWorld w e s) :=
  ⟨by simp [Lib.bytesWorld, World.freeze]; rfl, by simp [Lib.bytesWorld, World.freeze], by simp [Lib.bytesWorld, World.freeze]; rfl, by rw [Lib.bytesWorld_size]; omega, fun k hk => Lib.bytesWorld_at_old w e s k hk⟩
theorem bytes_row (w : World) (e : TypeId) (s : ByteArray) : TRow (Lib.bytesWorld w e s) w.heap.size s.data.toList := by
  refine ⟨fun j hj => ?_, fun j hj => ?_, by rw [Lib.bytesWorld_size]; omega⟩
  · exact Lib.bytesWorld_cell w e s j (by simpa using hj)
  · have hs : j < (Lib.bytesCells w e s).size := by
      unfold Lib.bytesCells
      rw [Array.size_append, Array.size_map]
      have : j < s.data.size := by simpa using hj
      omega
    simp only [World.frozen?, Lib.bytesWorld_at_new]
    simp; omega

/-- The bytes of a row, made a text. -/
theorem run_text {P : Program} {ρ : Operand → Value} {o : Oper} {src dst e : TypeId} {x : Operand} (ho : o.op = .convert src dst x) (hs : P.underlying src = some (.slice e)) (he : P.underlying e = some (.int .u8)) (hd : P.underlying dst = some .string)
    {g cap : Nat} {L : List UInt8} (hx : ρ x = .slice (some ⟨g, 0, none⟩) L.length cap) {w : World} (h : TRow w g L) : (execOp ρ o).run P w = .ok (.value (.string ⟨L.toArray⟩)) w := by
  have h1 := run_convert_bytes_arg w src e hs he g 0 L.length cap (L.map fun b => ((b.toNat : Nat) : Int)) (by simp) (fun i hi => by
    rw [Nat.zero_add, h.cell i hi]
    simp [List.getElem?_eq_getElem hi]) dst hd
  have h2 : strOfNums (L.map fun b => ((b.toNat : Nat) : Int)) = ⟨L.toArray⟩ := by
    unfold strOfNums
    congr 2
    rw [List.map_map]
    have : ((fun n : Int => UInt8.ofNat n.toNat) ∘ fun b : UInt8 => ((b.toNat : Nat) : Int)) = id := by funext b; simp
    rw [this, List.map_id]
  rw [h2] at h1
  unfold execOp
  rw [ho]
  simp only [hx, Sem.run_bind, h1, Result.andThen_ok, Sem.run_pure]

/-- '[]byte(s)'. -/
theorem run_bytes {P : Program} {ρ : Operand → Value} {o : Oper} {src dst e : TypeId} {x : Operand} (ho : o.op = .convert src dst x) (hs : P.underlying src = some .string) (hd : P.underlying dst = some (.slice e)) (he : P.underlying e = some (.int .u8))
    {s : ByteArray} (hx : ρ x = .string s) (w : World) : (execOp ρ o).run P w = .ok (.value (.slice (some ⟨w.heap.size, 0, none⟩) s.size (grownCap w s.size 0 e))) (Lib.bytesWorld w e s) := by
  unfold execOp
  rw [ho]
  simp only [hx, Sem.run_bind, Lib.run_convert_string_bytes w src dst e s hs hd he, Result.andThen_ok, Sem.run_pure]

theorem run_eql_text_is {P : Program} {ρ : Operand → Value} {o : Oper} {t t' : TypeId} {x y : Operand} (ho : o.op = .binOp .eql t x y t') {a b : ByteArray} (hx : ρ x = .string a) (hy : ρ y = .string b) (r : Bool) (hr : decide (a = b) = r) (w : World) :
    (execOp ρ o).run P w = .ok (.value (.bool r)) w := by
  unfold execOp
  rw [ho]
  simp only [hx, hy]
  have h : (a.toList == b.toList) = r := by
    rw [← hr, ByteArray.toList_eq, ByteArray.toList_eq, Bool.eq_iff_iff, beq_iff_eq, decide_eq_true_eq]
    exact ⟨fun h => ByteArray.ext (Array.toList_inj.1 h), fun h => by rw [h]⟩
  simp [eqGuard, binOp_string_eql, h]

theorem text_list (L : List UInt8) : (ByteArray.mk L.toArray).data.toList = L := by simp

end Go.Proofs.Ytpocmbbnloccoaa
