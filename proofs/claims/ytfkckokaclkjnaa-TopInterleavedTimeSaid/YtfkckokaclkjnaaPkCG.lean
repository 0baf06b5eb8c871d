/- packet.Ask, packet.Reply, packet.Encode at a header out of range, and their references. -/
import Derived.Test.YtfkckokaclkjnaaPkBG
namespace Go.Proofs.Ytfkckokaclkjnaa
open Go.RowKit

theorem ask_any (t : Nat) (w : World) : Calls Try.prog 17 #[.int .u64 t] w fun e w' => e = .returned (.agg #[.int .i64 0, .int .i64 4, .int .i64 3, .int .i64 0, .int .i64 6, .int .i64 0, .int .u32 0, .int .u32 0, .int .u32 0, .int .u64 0, .int .u64 0, .int .u64 0, .int .u64 t]) ∧ Below w.heap.size w w' := by
  go_enter Try.func17, Try.ntmps17
  go_wp2
  go_returns
  exact ⟨rfl, by go_grown⟩
end Go.Proofs.Ytfkckokaclkjnaa
