/- packet.Valid and its reference: whether the six numbers of a header lie in their ranges. -/
import Derived.Test.YtfkckokaclkjnaaBase
import Derived.Deep.QuietTactic
import Derived.BigQuiet
namespace Go.Proofs.Ytfkckokaclkjnaa
open Go.RowKit

/-- The six numbers of a header are in their ranges. -/
def HdOk (l v m s p q : Int) : Prop := (0 ≤ l ∧ l ≤ 3) ∧ (3 ≤ v ∧ v ≤ 4) ∧ (0 ≤ m ∧ m ≤ 7) ∧ (0 ≤ s ∧ s ≤ 255) ∧ (-128 ≤ p ∧ p ≤ 127) ∧ (-128 ≤ q ∧ q ≤ 127)
instance (l v m s p q : Int) : Decidable (HdOk l v m s p q) := by unfold HdOk; infer_instance

theorem small_in (x lo hi : Int) (w : World) (h1 : lo ≤ x) (h2 : x ≤ hi) :
    Calls Try.prog 30 #[.int .i64 x, .int .i64 lo, .int .i64 hi] w fun e w' => e = .returned (.bool true) ∧ w' = w := by
  go_enter Try.func30, Try.ntmps30
  go_wp2
  go_ret
  exact ⟨rfl, rfl⟩
theorem small_out (x lo hi : Int) (w : World) (h : x < lo ∨ lo ≤ x ∧ hi < x) :
    Calls Try.prog 30 #[.int .i64 x, .int .i64 lo, .int .i64 hi] w fun e w' => e = .returned (.bool false) ∧ w' = w := by
  rcases h with h | ⟨h1, h⟩
  all_goals
    go_enter Try.func30, Try.ntmps30
    go_wp2
    go_ret
    exact ⟨by simp; try omega, rfl⟩

set_option maxHeartbeats 1000000 in
theorem valid_ok (h0 h1 h2 h3 h4 h5 : Int) (h6 h7 h8 h9 h10 h11 h12 : Nat) (w : World) (h : HdOk h0 h1 h2 h3 h4 h5) :
    Calls Try.prog 24 #[.agg #[.int .i64 h0, .int .i64 h1, .int .i64 h2, .int .i64 h3, .int .i64 h4, .int .i64 h5, .int .u32 h6, .int .u32 h7, .int .u32 h8, .int .u64 h9, .int .u64 h10, .int .u64 h11, .int .u64 h12]] w
      fun e w' => e = .returned (.int .i64 0) ∧ Below w.heap.size w w' := by
  obtain ⟨⟨a0, b0⟩, ⟨a1, b1⟩, ⟨a2, b2⟩, ⟨a3, b3⟩, ⟨a4, b4⟩, ⟨a5, b5⟩⟩ := h
  go_enter Try.func24, Try.ntmps24
  go_wp2_with (go_at_call 30; refine (small_in _ _ _ _ (by omega) (by omega)).mono ?_; rintro e w1 ⟨rfl, rfl⟩)
  go_ret
  exact ⟨rfl, by go_grown⟩

theorem hd_first {l v m s p q : Int} (h : ¬ HdOk l v m s p q) :
    (l < 0 ∨ 0 ≤ l ∧ 3 < l) ∨ (0 ≤ l ∧ l ≤ 3) ∧ ((v < 3 ∨ 3 ≤ v ∧ 4 < v) ∨ (3 ≤ v ∧ v ≤ 4) ∧ ((m < 0 ∨ 0 ≤ m ∧ 7 < m) ∨ (0 ≤ m ∧ m ≤ 7) ∧ ((s < 0 ∨ 0 ≤ s ∧ 255 < s) ∨ (0 ≤ s ∧ s ≤ 255) ∧ ((p < -128 ∨ -128 ≤ p ∧ 127 < p) ∨ (-128 ≤ p ∧ p ≤ 127) ∧ (q < -128 ∨ -128 ≤ q ∧ 127 < q))))) := by
  unfold HdOk at h
  omega

set_option maxHeartbeats 4000000 in
theorem valid_bad (h0 h1 h2 h3 h4 h5 : Int) (h6 h7 h8 h9 h10 h11 h12 : Nat) (w : World) (h : ¬ HdOk h0 h1 h2 h3 h4 h5) :
    Calls Try.prog 24 #[.agg #[.int .i64 h0, .int .i64 h1, .int .i64 h2, .int .i64 h3, .int .i64 h4, .int .i64 h5, .int .u32 h6, .int .u32 h7, .int .u32 h8, .int .u64 h9, .int .u64 h10, .int .u64 h11, .int .u64 h12]] w
      fun e w' => e = .returned (.int .i64 4) ∧ Below w.heap.size w w' := by
  rcases hd_first h with x | ⟨⟨a0, b0⟩, x | ⟨⟨a1, b1⟩, x | ⟨⟨a2, b2⟩, x | ⟨⟨a3, b3⟩, x | ⟨⟨a4, b4⟩, x⟩⟩⟩⟩⟩
  all_goals
    clear h
    have X := Lib.hid x
    clear x
    go_enter Try.func24, Try.ntmps24
    go_wp2_with (first | (go_at_call 30; refine (small_in _ _ _ _ (by omega) (by omega)).mono ?_; rintro e w1 ⟨rfl, rfl⟩) | (go_at_call 30; refine (small_out _ _ _ _ (by exact X.out)).mono ?_; rintro e w1 ⟨rfl, rfl⟩))
    go_ret
    exact ⟨rfl, by go_grown⟩

theorem valid_any (h0 h1 h2 h3 h4 h5 : Int) (h6 h7 h8 h9 h10 h11 h12 : Nat) (w : World) :
    Calls Try.prog 24 #[.agg #[.int .i64 h0, .int .i64 h1, .int .i64 h2, .int .i64 h3, .int .i64 h4, .int .i64 h5, .int .u32 h6, .int .u32 h7, .int .u32 h8, .int .u64 h9, .int .u64 h10, .int .u64 h11, .int .u64 h12]] w
      fun e w' => e = .returned (.int .i64 (if HdOk h0 h1 h2 h3 h4 h5 then 0 else 4)) ∧ Below w.heap.size w w' := by
  by_cases h : HdOk h0 h1 h2 h3 h4 h5
  · rw [if_pos h]; exact valid_ok _ _ _ _ _ _ _ _ _ _ _ _ _ w h
  · rw [if_neg h]; exact valid_bad _ _ _ _ _ _ _ _ _ _ _ _ _ w h
end Go.Proofs.Ytfkckokaclkjnaa
