/- sectimeref01.Same -/
import Derived.Test.YtahphlcahaheiaaBase
namespace Go.Proofs.Ytahphlcahaheiaa
open Go.RowKit

/-! ### Equality of bytes -/
theorem beq_dec (l l2 : List UInt8) : (l == l2) = decide (l = l2) := by by_cases h : l = l2 <;> simp [h]

set_option maxHeartbeats 1000000 in
theorem refSame_any (A : Option Addr) (n c : Nat) (l : List UInt8) (A2 : Option Addr) (n2 c2 : Nat) (l2 : List UInt8) (w : World) (h1 : Bytes w A n c l) (h2 : Bytes w A2 n2 c2 l2) :
    Calls Try.prog 19 #[.slice A n c, .slice A2 n2 c2] w fun e w' => e = .returned (.bool (decide (l = l2))) ∧ w = w' := by
  have e1 := conv_str (P := Try.prog) h1 22 9 5 Try.underlying22 Try.underlying5 Try.underlying9
  have e2 := conv_str (P := Try.prog) h2 22 9 5 Try.underlying22 Try.underlying5 Try.underlying9
  clear h1 h2
  go_enter Try.func19, Try.ntmps19
  go_wp2
  go_ret
  refine ⟨?_, rfl⟩
  simp [strOf_toList, beq_dec]
theorem refSame_true {A : Option Addr} {n c : Nat} {l : List UInt8} {A2 : Option Addr} {n2 c2 : Nat} {l2 : List UInt8} {w : World} (h1 : Bytes w A n c l) (h2 : Bytes w A2 n2 c2 l2) (e0 : l = l2) :
    Calls Try.prog 19 #[.slice A n c, .slice A2 n2 c2] w fun e w' => e = .returned (.bool true) ∧ w = w' :=
  (refSame_any A n c l A2 n2 c2 l2 w h1 h2).mono fun e w' h => by rw [decide_eq_true e0] at h; exact h
theorem refSame_false {A : Option Addr} {n c : Nat} {l : List UInt8} {A2 : Option Addr} {n2 c2 : Nat} {l2 : List UInt8} {w : World} (h1 : Bytes w A n c l) (h2 : Bytes w A2 n2 c2 l2) (e0 : ¬ l = l2) :
    Calls Try.prog 19 #[.slice A n c, .slice A2 n2 c2] w fun e w' => e = .returned (.bool false) ∧ w = w' :=
  (refSame_any A n c l A2 n2 c2 l2 w h1 h2).mono fun e w' h => by rw [decide_eq_false e0] at h; exact h
end Go.Proofs.Ytahphlcahaheiaa
