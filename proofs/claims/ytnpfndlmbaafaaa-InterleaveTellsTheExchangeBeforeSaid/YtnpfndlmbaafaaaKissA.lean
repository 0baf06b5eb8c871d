import Derived.Test.YtnpfndlmbaafaaaWithin
namespace Go.Proofs.Ytnpfndlmbaafaaa
open Go.RowKit

set_option maxHeartbeats 400000 in
theorem ticksValid_yes (n : Int) (h1 : -1152921504606846976 ≤ n) (h2 : n ≤ 1152921504606846976) (w : World) :
    Calls Try.prog 54 #[.int .i64 n] w fun e w' => e = .returned (.bool true) ∧ w = w' := by
  have h3 : decide (n ≤ 1152921504606846976) = true := by simpa using h2
  go_enter Try.func54, Try.ntmps54
  go_wp2
  go_ret
  exact ⟨rfl, rfl⟩

set_option maxHeartbeats 400000 in
theorem kissValid_yes (paid every burst now : Int) (h1 : 1 ≤ every) (h2 : every ≤ 1099511627776) (h3 : 1 ≤ burst) (h4 : burst ≤ 64)
    (h5 : -1152921504606846976 ≤ now) (h6 : now ≤ 1152921504606846976) (h7 : -1152921504606846976 ≤ paid) (h8 : paid ≤ 1152921504606846976) (w : World) :
    Calls Try.prog 53 #[.agg #[.int .i64 paid], .agg #[.int .i64 every, .int .i64 burst], .int .i64 now] w fun e w' => e = .returned (.bool true) ∧ Below w.heap.size w w' := by
  go_enter Try.func53, Try.ntmps53
  go_wp2_with (go_at_call 54; refine (ticksValid_yes _ (by omega) (by omega) _).mono ?_; rintro e w' ⟨rfl, rfl⟩)
  go_ret
  exact ⟨rfl, ((Below.refl _ _).alloc (Nat.le_refl _) _).alloc (by simp) _⟩
end Go.Proofs.Ytnpfndlmbaafaaa
