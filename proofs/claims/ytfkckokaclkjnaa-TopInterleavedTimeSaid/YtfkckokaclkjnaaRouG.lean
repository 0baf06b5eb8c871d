/- sectimeworld.Span, the sanity check of TopHoldover. -/
import Derived.Test.YtfkckokaclkjnaaEraUG
namespace Go.Proofs.Ytfkckokaclkjnaa
open Go Go.RowKit

def wLo (a : Int) : Int := a % 2000 - 1000
def wHi (a b : Int) : Int := wLo a + b % 500
theorem wLo_in (a : Int) : -1000 ≤ wLo a ∧ wLo a ≤ 999 := by unfold wLo; omega
theorem wHi_in (a b : Int) : wLo a ≤ wHi a b ∧ wHi a b ≤ wLo a + 499 := by unfold wHi; omega
end Go.Proofs.Ytfkckokaclkjnaa
