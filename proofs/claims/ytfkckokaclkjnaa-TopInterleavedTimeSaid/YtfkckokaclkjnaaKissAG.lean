import Derived.Test.YtfkckokaclkjnaaWithin
namespace Go.Proofs.Ytfkckokaclkjnaa
open Go.RowKit

set_option maxHeartbeats 400000 in
theorem ticksValid_yes (n : Int) (h1 : -1152921504606846976 ≤ n) (h2 : n ≤ 1152921504606846976) (w : World) :
    Calls Try.prog 16 #[.int .i64 n] w fun e w' => e = .returned (.bool true) ∧ w = w' := by
  have h3 : decide (n ≤ 1152921504606846976) = true := by simpa using h2
  go_enter Try.func16, Try.ntmps16
  go_wp2
  go_ret
  exact ⟨rfl, rfl⟩

end Go.Proofs.Ytfkckokaclkjnaa
