/- The walk of PersistChoosesTheNewest. -/
import Derived.Test.YtbjmojajhkhekaaPsI
import Derived.Test.YtbjmojajhkhekaaPsJ
import Derived.Test.YtbjmojajhkhekaaFlip
namespace Go.Proofs.Ytbjmojajhkhekaa
open Go.RowKit

theorem new_nil (lb : List UInt8) : (∀ i, i < 7 → nvN lb [] i = lvN lb i) ∧ nvW lb [] = 0 ∧ (nvE lb [] = 0 ↔ lvE lb = 0) := by
  have hn : ¬ lvE [] = 0 := by decide
  by_cases h : lvE lb = 0
  · obtain ⟨e1, e2, e3⟩ := nv_x lb [] (by unfold nwK; rw [if_neg (fun g => g.1 h), if_neg (fun g => g.elim (fun q => q h) (fun q => hn q.1))])
    exact ⟨fun i _ => e1 i, e2, ⟨fun _ => h, fun _ => e3⟩⟩
  · obtain ⟨e1, e2, e3⟩ := nv_none lb [] (by unfold nwK; rw [if_pos ⟨h, hn⟩])
    exact ⟨fun i hi => (e1 i).trans (lvN_bad lb h i hi).symm, e2, ⟨fun g => by rw [e3] at g; exact absurd g (by decide), fun g => absurd g h⟩⟩
end Go.Proofs.Ytbjmojajhkhekaa
