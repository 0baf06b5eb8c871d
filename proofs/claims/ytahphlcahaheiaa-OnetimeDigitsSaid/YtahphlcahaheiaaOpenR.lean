/- The reach of an argument: how many bytes a slice that came in can take. -/
import Derived.Test.YtahphlcahaheiaaOpen
import Derived.SizedLaws
namespace Go.Proofs.Ytahphlcahaheiaa
open Go.ChangeShapes Go.WideShapes Go.ChangeAt Go.RowKit

theorem reach_nums {H : Type} {enc : TypeId × Value → H} {P : Program} {W : World} {ts : List TypeId} {ds : List (DataW H)} {j : Nat} {t e : TypeId} {k : IntKind} {d : DataW H} {ps : List MemPlace} {A : Option Addr} {n c : Nat}
    (h : (DataW.weightsEach P ts ds).all (· ≤ reachBytes) = true) (hj : ts[j]? = some t) (hd : ds[j]? = some d) (ht : P.underlying t = some (.slice e)) (he : P.underlying e = some (.int k)) (hc : P.cellsOf e = 1)
    (hT : DataW.Trod enc P W 0 (fun _ => true) true t (.slice A n c) d ps) : c * P.bytesOf e ≤ 140737488351232 := by
  obtain ⟨fuel, hf⟩ := hT
  rcases open_ints ht he hc hf with ⟨hcs, _⟩ | ⟨x, l, cap, zs, hcs, _, hl, hm, hz, hx, _, _⟩
  · simp [Value.cells] at hcs
    obtain ⟨rfl, rfl, rfl⟩ := hcs
    simp
  · simp [Value.cells] at hcs
    obtain ⟨rfl, rfl, rfl⟩ := hcs
    simp only [Prod.mk.injEq] at hx
    obtain ⟨rfl, _⟩ := hx
    have := sized_slice h hj hd ht
    simp only [lits, List.length_map, List.length_take, List.length_drop, reachBytes] at this
    have h2 : min n zs.length + (zs.length - n) = c := by simp at hz; omega
    rw [h2] at this
    exact this
end Go.Proofs.Ytahphlcahaheiaa
