/- Structs that came in by value, opened field by field. -/
import Derived.Test.YticknkaohjkjpaaOpen
import Derived.ChangeArms
namespace Go.Proofs.Yticknkaohjkjpaa
open Go.ChangeShapes Go.WideShapes Go.ChangeAt Go.RowKit

section
variable {H : Type} {enc : TypeId × Value → H} {P : Program} {W : World}

/-- The cells cs read at these fields. -/
def Flds (enc : TypeId × Value → H) (P : Program) (W : World) (fs : Array Field) (cs : List Value) : Prop :=
  ∃ n : Nat, ∀ (i : Nat) (f : Field), fs[i]? = some f → ∃ y, DataW.trod enc P W 0 (fun _ => true) true n f.type ((cs.drop f.offset).take (P.cellsOf f.type)) = some y

theorem flds_of {t n : Nat} {fs : Array Field} {cs : List Value} {x : DataW H × List MemPlace} (hs : P.underlying t = some (.struct fs)) (h : DataW.trod enc P W 0 (fun _ => true) true n t cs = some x) : cs.length = P.cellsOf t ∧ Flds enc P W fs cs := by
  obtain ⟨xs, m, _, _, hl, hlen, hf⟩ := DataW.trod_struct hs h
  refine ⟨hl, m, fun i f hi => ?_⟩
  have hlt : i < xs.length := by rw [hlen]; exact (Array.getElem?_eq_some_iff.1 hi).1
  exact ⟨xs[i], by rw [hf i f hi, List.getElem?_eq_getElem hlt]⟩

theorem open_struct {r : Reach} {b0 t : Nat} {fs : Array Field} {v : Value} {d : DataW H} {ps : List MemPlace} (hs : P.underlying t = some (.struct fs))
    (hv : Value.okWide P W r b0 t v) (h : DataW.Trod enc P W 0 (fun _ => true) true t v d ps) : ∃ cs : List Value, v = .agg cs.toArray ∧ cs.length = P.cellsOf t ∧ Flds enc P W fs cs := by
  obtain ⟨cs, rfl, _⟩ := okWide_struct hs hv
  obtain ⟨fuel, hf⟩ := h
  have := flds_of hs hf
  exact ⟨cs.toList, by simp, this.1, this.2⟩

variable {fs : Array Field} {cs : List Value} {i : Nat} {f : Field}
theorem Flds.int (h : Flds enc P W fs cs) {k : IntKind} {o : Nat} (hi : fs[i]? = some f) (ho : f.offset = o) (ht : P.underlying f.type = some (.int k)) (hc : P.cellsOf f.type = 1) : ∃ x, (cs.drop o).take 1 = [.int k x] ∧ (Lit.int k x).wf = true := by
  obtain ⟨n, h⟩ := h
  obtain ⟨y, hy⟩ := h i f hi
  obtain ⟨x, e, _, w⟩ := DataW.trod_int ht hy
  exact ⟨x, by rw [← hc, ← ho]; exact e, w⟩
theorem Flds.bool (h : Flds enc P W fs cs) {o : Nat} (hi : fs[i]? = some f) (ho : f.offset = o) (ht : P.underlying f.type = some .bool) (hc : P.cellsOf f.type = 1) : ∃ x, (cs.drop o).take 1 = [.bool x] := by
  obtain ⟨n, h⟩ := h
  obtain ⟨y, hy⟩ := h i f hi
  obtain ⟨x, e, _⟩ := DataW.trod_bool ht hy
  exact ⟨x, by rw [← hc, ← ho]; exact e⟩
theorem Flds.string (h : Flds enc P W fs cs) {o : Nat} (hi : fs[i]? = some f) (ho : f.offset = o) (ht : P.underlying f.type = some .string) (hc : P.cellsOf f.type = 1) : ∃ x : ByteArray, (cs.drop o).take 1 = [.string x] ∧ x.size ≤ maxLen := by
  obtain ⟨n, h⟩ := h
  obtain ⟨y, hy⟩ := h i f hi
  obtain ⟨x, e, _, w⟩ := DataW.trod_string ht hy
  exact ⟨x, by rw [← hc, ← ho]; exact e, w⟩
theorem Flds.struct (h : Flds enc P W fs cs) {gs : Array Field} {o : Nat} (hi : fs[i]? = some f) (ho : f.offset = o) {m : Nat} (hm : P.cellsOf f.type = m) (ht : P.underlying f.type = some (.struct gs)) : Flds enc P W gs ((cs.drop o).take m) := by
  subst ho hm
  obtain ⟨n, h⟩ := h
  obtain ⟨y, hy⟩ := h i f hi
  exact (flds_of ht hy).2
end
end Go.Proofs.Yticknkaohjkjpaa
