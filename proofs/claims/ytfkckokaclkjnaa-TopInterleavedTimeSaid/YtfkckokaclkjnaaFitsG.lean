/- drift.Fits. -/
import Derived.Test.YtfkckokaclkjnaaDrhG
namespace Go.Proofs.Ytfkckokaclkjnaa
open Go Go.RowKit

/-- Whether d ticks of a clock that drifts by p may be e ticks. -/
def fitsB (e d p : Nat) : Bool := decide (cmp128 e (1000000000 - p) d 1000000000 ≤ 0) && decide (cmp128 d 1000000000 e (1000000000 + p) ≤ 0)
theorem cmp128_le (a b c d : Nat) : cmp128 a b c d ≤ 0 ↔ a * b ≤ c * d := by
  unfold cmp128
  have h1 := Nat.div_add_mod (a * b) 18446744073709551616
  have h2 := Nat.div_add_mod (c * d) 18446744073709551616
  have l1 : a * b % 18446744073709551616 < 18446744073709551616 := Nat.mod_lt _ (by decide)
  have l2 : c * d % 18446744073709551616 < 18446744073709551616 := Nat.mod_lt _ (by decide)
  generalize a * b = X at *
  generalize c * d = Y at *
  generalize X / 18446744073709551616 = xh at *
  generalize X % 18446744073709551616 = xl at *
  generalize Y / 18446744073709551616 = yh at *
  generalize Y % 18446744073709551616 = yl at *
  unfold orI cmpI
  split <;> split <;> (try split) <;> omega
end Go.Proofs.Ytfkckokaclkjnaa
