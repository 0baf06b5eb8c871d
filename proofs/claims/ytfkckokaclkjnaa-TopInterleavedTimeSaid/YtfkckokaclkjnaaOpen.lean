/- Arguments that came in, opened: from the row's reading to the words of Base. -/
import Derived.Test.YtfkckokaclkjnaaBase
import Derived.ProofKit
import Derived.OpenShut
import Derived.ShutString
import Derived.ChangeOld
namespace Go.Proofs.Ytfkckokaclkjnaa
open Go.ChangeShapes Go.WideShapes Go.ChangeAt Go.RowKit

/-- '.slice A n c' reads as the numbers l of kind k. -/
def Nums (k : IntKind) (w : World) (A : Option Addr) (n c : Nat) (l : List Int) : Prop := Rd w 1 A n c (l.map (Value.int k)) ∧ ∀ x ∈ l, (Lit.int k x).wf = true

section
variable {H : Type} {enc : TypeId × Value → H} {P : Program} {W : World}
theorem spot_none {w : World} {a : Addr} {v : Value} (h : w.cell? a = some v) : a.spot = none := World.cell?_spot h

theorem open_nums {r : Reach} {b0 t e : Nat} {k : IntKind} {v : Value} {d : DataW H} {ps : List MemPlace} (ht : P.underlying t = some (.slice e)) (he : P.underlying e = some (.int k)) (hc : P.cellsOf e = 1)
    (hval : Value.okWide P W r b0 t v) (h : DataW.Trod enc P W 0 (fun _ => true) true t v d ps) : ∃ A n c l, v = .slice A n c ∧ Nums k W A n c l := by
  obtain ⟨A, n, c, rfl⟩ := okWide_slice ht hval
  refine ⟨A, n, c, ?_⟩
  obtain ⟨fuel, hf⟩ := h
  rcases open_ints ht he hc hf with ⟨hcs, _⟩ | ⟨x, l, cap, zs, hcs, _, hl, hm, hz, _, hcell, hwz⟩
  · simp [Value.cells] at hcs
    obtain ⟨rfl, rfl, rfl⟩ := hcs
    exact ⟨[], rfl, Rd.nil _ _ _ (by decide) _, by simp⟩
  · simp [Value.cells] at hcs
    obtain ⟨rfl, rfl, rfl⟩ := hcs
    refine ⟨zs.take n, rfl, ⟨by simp at hz ⊢; omega, hl, hm, fun i u hu => ?_⟩, fun y hy => hwz y (List.mem_of_mem_take hy)⟩
    have hi : i < n := by
      rcases Nat.lt_or_ge i n with h | h
      · exact h
      · rw [List.getElem?_eq_none (by simp; omega)] at hu; cases hu
    have hiz : i < zs.length := by simp at hz; omega
    have hci := hcell i hiz
    obtain ⟨b, off, spot⟩ := x
    have h0 := hcell 0 (by omega)
    have hsp : spot = none := by have := spot_none h0; simpa [Addr.add] using this
    subst hsp
    refine ⟨b, off, rfl, ?_⟩
    rw [add_off] at hci
    rw [hci]
    simp [hi, hiz, List.getD] at hu ⊢
    exact hu

theorem open_bytes {r : Reach} {b0 t e : Nat} {v : Value} {d : DataW H} {ps : List MemPlace} (ht : P.underlying t = some (.slice e)) (he : P.underlying e = some (.int .u8)) (hc : P.cellsOf e = 1)
    (hval : Value.okWide P W r b0 t v) (h : DataW.Trod enc P W 0 (fun _ => true) true t v d ps) : ∃ A n c l, v = .slice A n c ∧ Bytes W A n c l := by
  obtain ⟨A, n, c, l, rfl, hl, hw⟩ := open_nums ht he hc hval h
  refine ⟨A, n, c, l.map fun x => UInt8.ofNat x.toNat, rfl, ?_⟩
  have : (l.map fun x => UInt8.ofNat x.toNat).map byteV = l.map (Value.int .u8) := by
    rw [List.map_map]
    apply List.map_congr_left
    intro x hx
    have := bounds_u8 (hw x hx)
    simp [byteV, Function.comp]
    omega
  unfold Bytes
  rw [this]
  exact hl
end
end Go.Proofs.Ytfkckokaclkjnaa
