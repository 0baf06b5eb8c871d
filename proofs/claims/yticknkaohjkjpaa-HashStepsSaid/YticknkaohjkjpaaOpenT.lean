/- Structs that came in by value and hold slices, opened field by field. -/
import Derived.Test.YticknkaohjkjpaaOpenS
namespace Go.Proofs.Yticknkaohjkjpaa
open Go.ChangeShapes Go.WideShapes Go.ChangeAt Go.RowKit

section
variable {H : Type} {enc : TypeId × Value → H} {P : Program} {W : World}
theorem nums_of_cells {t e fuel : Nat} {k : IntKind} {cs : List Value} {y : DataW H × List MemPlace} (ht : P.underlying t = some (.slice e)) (he : P.underlying e = some (.int k)) (hc : P.cellsOf e = 1)
    (h : DataW.trod enc P W 0 (fun _ => true) true fuel t cs = some y) : ∃ A n c l, cs = [.slice A n c] ∧ Nums k W A n c l := by
  rcases open_ints ht he hc h with ⟨hcs, _⟩ | ⟨x, n, cap, zs, hcs, _, hl, hm, hz, _, hcell, hwz⟩
  · exact ⟨none, 0, 0, [], hcs, Rd.nil _ _ _ (by decide) _, by simp⟩
  · refine ⟨some x, n, cap, zs.take n, hcs, ⟨by simp at hz ⊢; omega, hl, hm, fun i u hu => ?_⟩, fun y hy => hwz y (List.mem_of_mem_take hy)⟩
    have hi : i < n := by
      rcases Nat.lt_or_ge i n with h | h
      · exact h
      · rw [List.getElem?_eq_none (by simp; omega)] at hu; cases hu
    have hiz : i < zs.length := by simp at hz; omega
    have hci := hcell i hiz
    obtain ⟨b, off, spot⟩ := x
    have h0 := hcell 0 (by omega)
    have hsp : spot = none := by have := spot_none h0; simpa [Addr.add] using this
    subst hsp
    refine ⟨b, off, rfl, ?_⟩
    rw [add_off] at hci
    rw [hci]
    simp [hi, hiz, List.getD] at hu ⊢
    exact hu
theorem bytes_of_nums {A : Option Addr} {n c : Nat} {l : List Int} (h : Nums .u8 W A n c l) : Bytes W A n c (l.map fun x => UInt8.ofNat x.toNat) := by
  have : (l.map fun x => UInt8.ofNat x.toNat).map byteV = l.map (Value.int .u8) := by
    rw [List.map_map]
    apply List.map_congr_left
    intro x hx
    have := bounds_u8 (h.2 x hx)
    simp [byteV, Function.comp]
    omega
  unfold Bytes
  rw [this]
  exact h.1
variable {fs : Array Field} {cs : List Value} {i : Nat} {f : Field}
theorem Flds.nums (h : Flds enc P W fs cs) {k : IntKind} {o e : Nat} (hi : fs[i]? = some f) (ho : f.offset = o) (ht : P.underlying f.type = some (.slice e)) (he : P.underlying e = some (.int k)) (hc : P.cellsOf e = 1) (hf : P.cellsOf f.type = 1) :
    ∃ A n c l, (cs.drop o).take 1 = [.slice A n c] ∧ Nums k W A n c l := by
  obtain ⟨n, h⟩ := h
  obtain ⟨y, hy⟩ := h i f hi
  rw [hf, ho] at hy
  exact nums_of_cells ht he hc hy
theorem Flds.bytes (h : Flds enc P W fs cs) {o e : Nat} (hi : fs[i]? = some f) (ho : f.offset = o) (ht : P.underlying f.type = some (.slice e)) (he : P.underlying e = some (.int .u8)) (hc : P.cellsOf e = 1) (hf : P.cellsOf f.type = 1) :
    ∃ A n c l, (cs.drop o).take 1 = [.slice A n c] ∧ Bytes W A n c l := by
  obtain ⟨A, n, c, l, e1, h1⟩ := h.nums hi ho ht he hc hf
  exact ⟨A, n, c, _, e1, bytes_of_nums h1⟩
end
end Go.Proofs.Yticknkaohjkjpaa
