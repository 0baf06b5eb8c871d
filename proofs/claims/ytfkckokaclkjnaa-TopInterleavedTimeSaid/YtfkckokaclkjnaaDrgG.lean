/- drift.Advance, Elapsed where they succeed. -/
import Derived.Test.YtfkckokaclkjnaaDrfG
import Derived.Test.YtfkckokaclkjnaaStores
namespace Go.Proofs.Ytfkckokaclkjnaa
open Go Go.RowKit

def aLo (e p : Nat) : Nat := quoN (e * (1000000000 - p)) 1000000000 false
def aHi (e p : Nat) : Nat := quoN (e * (1000000000 + p)) 1000000000 true
theorem quo_lt {e b c : Nat} (he : e < 562949953421312) (hb : b ≤ 1001000000) (hc : 536870912 ≤ c) : e * b / c < 4611686018427387904 := by
  have h1 : e * b ≤ 562949953421312 * 1001000000 := Nat.mul_le_mul (by omega) hb
  exact (Nat.div_lt_iff_lt_mul (by omega)).2 (by omega)
end Go.Proofs.Ytfkckokaclkjnaa
