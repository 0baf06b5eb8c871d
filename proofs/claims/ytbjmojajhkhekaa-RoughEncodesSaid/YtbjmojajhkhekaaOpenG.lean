/- A slice of tags that came in: opened. -/
import Derived.Test.YtbjmojajhkhekaaRgO
import Derived.Test.YtbjmojajhkhekaaOpenL
namespace Go.Proofs.Ytbjmojajhkhekaa
open Go.ChangeShapes Go.WideShapes Go.ChangeAt Go.RowKit Go.Deep

section
variable {H : Type} {enc : TypeId × Value → H} {P : Program} {W : World}
theorem open_tags {r : Reach} {b0 t e tu : Nat} {f0 f1 : Field} {v : Value} {d : DataW H} {ps : List MemPlace}
    (ht : P.underlying t = some (.slice e)) (he : P.underlying e = some (.struct #[f0, f1])) (ho0 : f0.offset = 0) (ho1 : f1.offset = 1) (hC : P.cellsOf e = 2) (hk0 : P.cellsOf f0.type = 1) (hk1 : P.cellsOf f1.type = 1)
    (hi0 : P.underlying f0.type = some .string) (hb : P.underlying f1.type = some (.slice tu)) (hu : P.underlying tu = some (.int .u8)) (hcu : P.cellsOf tu = 1)
    (hval : Value.okWide P W r b0 t v) (h : DataW.Trod enc P W 0 (fun _ => true) true t v d ps) : ∃ A n c xs, v = .slice A n c ∧ TagL W A n c xs := by
  have : Inhabited ByteArray := ⟨ByteArray.empty⟩
  obtain ⟨A, n, c, xs, rfl, vs, h1, h2, h3⟩ := open_pairs (fun v b => v = .string b) ht he ho0 ho1 hC hk0 hk1 (fun n v y hy => by
    obtain ⟨s, e, _, _⟩ := DataW.trod_string hi0 hy
    simp at e
    exact ⟨s, e⟩) hb hu hcu hval h
  refine ⟨A, n, c, xs, rfl, vs, h1, h2, fun i x hx => ?_⟩
  obtain ⟨v0, A', n', c', e0, rfl, e1, hy⟩ := h3 i x hx
  exact ⟨A', n', c', e0, e1, hy⟩
end
end Go.Proofs.Ytbjmojajhkhekaa
