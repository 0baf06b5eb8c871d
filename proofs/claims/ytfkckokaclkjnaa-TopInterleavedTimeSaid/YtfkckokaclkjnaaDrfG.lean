/- drift.bound, in, Advance, Elapsed where they succeed. -/
import Derived.Test.YtfkckokaclkjnaaCmpOG
namespace Go.Proofs.Ytfkckokaclkjnaa
open Go Go.RowKit

set_option maxHeartbeats 4000000 in
theorem bound_yes (p : Nat) (w : World) (h : p ≤ 1000000) : Calls Try.prog 34 #[.int .i64 p] w fun e w' => e = .returned (.bool true) ∧ w = w' := by
  have d1 : (p : Int) ≤ 1000000 := by omega
  have d2 : (0 : Int) ≤ (p : Int) := by omega
  go_enter Try.func34, Try.ntmps34
  go_wp2
  go_ret
  exact ⟨rfl, rfl⟩
set_option maxHeartbeats 4000000 in
theorem in_ok (d p : Nat) (w : World) (h : p ≤ 1000000) (hd : d ≤ 576460752303423488) : Calls Try.prog 28 #[.int .i64 d, .int .i64 p] w fun e w' => e = .returned (.bool true) ∧ w = w' := by
  have d1 : (d : Int) ≤ 576460752303423488 := by omega
  have d2 : (0 : Int) ≤ (d : Int) := by omega
  go_enter Try.func28, Try.ntmps28
  go_wp2_with fail
  refine (bound_yes p _ h).mono ?_
  rintro e q_ ⟨rfl, rfl⟩
  go_wp2
  go_ret
  exact ⟨rfl, rfl⟩
end Go.Proofs.Ytfkckokaclkjnaa
