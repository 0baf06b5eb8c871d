import Derived.Deep.QuietTactic
import Derived.BigQuiet
import Derived.Test.YtiemnacoebkalaaGreatTaV00
set_option linter.all false
set_option maxRecDepth 100000
set_option maxHeartbeats 4000000
namespace Go.Proofs.YtiemnacoebkalaaGreat
open Go.RowKit
def HdOk (l v m s p q : Int) : Prop := (0 <= l ∧ l <= 3) ∧ (3 <= v ∧ v <= 4) ∧ (0 <= m ∧ m <= 7) ∧ (0 <= s ∧ s <= 255) ∧ (-128 <= p ∧ p <= 127) ∧ (-128 <= q ∧ q <= 127)
instance (l v m s p q : Int) : Decidable (HdOk l v m s p q) := by unfold HdOk; infer_instance

theorem small_in (x lo hi : Int) (w : World) (h1 : lo <= x) (h2 : x <= hi) :
    Calls Tryz.prog 133 #[.int .i64 x, .int .i64 lo, .int .i64 hi] w fun e w' => e = .returned (.bool true) ∧ w' = w := by
 go_enter Tryz.func133, Tryz.ntmps133
 go_wp2; go_ret; exact ⟨rfl, rfl⟩
theorem valid_ok (h0 h1 h2 h3 h4 h5 : Int) (h6 h7 h8 h9 h10 h11 h12 : Nat) (w : World) (h : HdOk h0 h1 h2 h3 h4 h5) :
    Calls Tryz.prog 100 #[.agg #[.int .i64 h0, .int .i64 h1, .int .i64 h2, .int .i64 h3, .int .i64 h4, .int .i64 h5, .int .u32 h6, .int .u32 h7, .int .u32 h8, .int .u64 h9, .int .u64 h10, .int .u64 h11, .int .u64 h12]] w
     fun e w' => e = .returned (.int .i64 0) ∧ Below w.heap.size w w' := by
 obtain ⟨⟨a0, b0⟩, ⟨a1, b1⟩, ⟨a2, b2⟩, ⟨a3, b3⟩, ⟨a4, b4⟩, ⟨a5, b5⟩⟩ := h
 go_enter Tryz.func100, Tryz.ntmps100
 go_wp2_with (go_at_call 133; refine (small_in _ _ _ _ (by omega) (by omega)).mono ?_; rintro e w1 ⟨rfl, rfl⟩)
 go_ret; exact ⟨rfl, by go_grown⟩

end Go.Proofs.YtiemnacoebkalaaGreat
