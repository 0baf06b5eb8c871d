/- sectimeworld.Within -/
import Derived.Test.YtfkckokaclkjnaaBase
namespace Go.Proofs.Ytfkckokaclkjnaa
open Go.RowKit

theorem tmod_within (v n : Int) (hn : 1 ≤ n) : (v.tmod n < 0 → v.tmod n + n = v % n) ∧ (0 ≤ v.tmod n → v.tmod n = v % n) := by
  have h1 := Int.tmod_eq_emod (a := v) (b := n)
  have h3 := Int.emod_nonneg v (show n ≠ 0 by omega)
  have h4 := Int.emod_lt_of_pos v (show 0 < n by omega)
  rw [h1]
  split <;> constructor <;> intro h <;> omega

end Go.Proofs.Ytfkckokaclkjnaa
