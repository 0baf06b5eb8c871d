/- packet.Ask, packet.Reply, packet.Encode at a header out of range, and their references. -/
import Derived.Test.YtnpfndlmbaafaaaPkB
namespace Go.Proofs.Ytnpfndlmbaafaaa
open Go.RowKit

theorem ask_any (t : Nat) (w : World) : Calls Try.prog 15 #[.int .u64 t] w fun e w' => e = .returned (.agg #[.int .i64 0, .int .i64 4, .int .i64 3, .int .i64 0, .int .i64 6, .int .i64 0, .int .u32 0, .int .u32 0, .int .u32 0, .int .u64 0, .int .u64 0, .int .u64 0, .int .u64 t]) ∧ Below w.heap.size w w' := by
  go_enter Try.func15, Try.ntmps15
  go_wp2
  go_returns
  exact ⟨rfl, by go_grown⟩
theorem refAsk_any (t : Nat) (w : World) : Calls Try.prog 38 #[.int .u64 t] w fun e w' => e = .returned (.agg #[.int .i64 0, .int .i64 4, .int .i64 3, .int .i64 0, .int .i64 6, .int .i64 0, .int .u32 0, .int .u32 0, .int .u32 0, .int .u64 0, .int .u64 0, .int .u64 0, .int .u64 t]) ∧ Below w.heap.size w w' := by
  go_enter Try.func38, Try.ntmps38
  go_wp2
  go_returns
  exact ⟨rfl, by go_grown⟩

set_option maxHeartbeats 4000000 in
theorem refValid_ok (h0 h1 h2 h3 h4 h5 : Int) (h6 h7 h8 h9 h10 h11 h12 : Nat) (w : World) (h : HdOk h0 h1 h2 h3 h4 h5) :
    Calls Try.prog 42 #[.agg #[.int .i64 h0, .int .i64 h1, .int .i64 h2, .int .i64 h3, .int .i64 h4, .int .i64 h5, .int .u32 h6, .int .u32 h7, .int .u32 h8, .int .u64 h9, .int .u64 h10, .int .u64 h11, .int .u64 h12]] w
      fun e w' => e = .returned (.int .i64 0) ∧ Below w.heap.size w w' := by
  obtain ⟨⟨a0, b0⟩, a1, ⟨a2, b2⟩, ⟨a3, b3⟩, ⟨a4, b4⟩, ⟨a5, b5⟩⟩ := h
  have a1' : h1 = 3 ∨ h1 = 4 := by omega
  clear a1
  rcases a1' with rfl | rfl
  all_goals
    go_enter Try.func42, Try.ntmps42
    go_wp2
    go_ret
    exact ⟨rfl, by go_grown⟩

set_option maxHeartbeats 8000000 in
theorem refValid_bad (h0 h1 h2 h3 h4 h5 : Int) (h6 h7 h8 h9 h10 h11 h12 : Nat) (w : World) (h : ¬ HdOk h0 h1 h2 h3 h4 h5) :
    Calls Try.prog 42 #[.agg #[.int .i64 h0, .int .i64 h1, .int .i64 h2, .int .i64 h3, .int .i64 h4, .int .i64 h5, .int .u32 h6, .int .u32 h7, .int .u32 h8, .int .u64 h9, .int .u64 h10, .int .u64 h11, .int .u64 h12]] w
      fun e w' => e = .returned (.int .i64 4) ∧ Below w.heap.size w w' := by
  rcases hd_first h with (x | ⟨x, y⟩) | ⟨⟨a0, b0⟩, x | ⟨a1, (x | ⟨x, y⟩) | ⟨⟨a2, b2⟩, (x | ⟨x, y⟩) | ⟨⟨a3, b3⟩, (x | ⟨x, y⟩) | ⟨⟨a4, b4⟩, (x | ⟨x, y⟩)⟩⟩⟩⟩⟩
  case inr.inl =>
    have e3 : ¬ h1 = 3 := by omega
    have e4 : ¬ h1 = 4 := by omega
    clear h x
    go_enter Try.func42, Try.ntmps42
    go_wp2
    go_ret
    exact ⟨rfl, by go_grown⟩
  all_goals
    clear h
    try
      have a1' : h1 = 3 ∨ h1 = 4 := by omega
      clear a1
      rcases a1' with rfl | rfl
  all_goals
    go_enter Try.func42, Try.ntmps42
    go_wp2
    go_ret
    exact ⟨rfl, by go_grown⟩
end Go.Proofs.Ytnpfndlmbaafaaa
