/- bytes.Equal -/
import Derived.Test.YtbjmojajhkhekaaSame
namespace Go.Proofs.Ytbjmojajhkhekaa
open Go.RowKit

set_option maxHeartbeats 1000000 in
theorem bytesEqual_any (A : Option Addr) (n c : Nat) (l : List UInt8) (A2 : Option Addr) (n2 c2 : Nat) (l2 : List UInt8) (w : World) (h1 : Bytes w A n c l) (h2 : Bytes w A2 n2 c2 l2) :
    Calls Try.prog 60 #[.slice A n c, .slice A2 n2 c2] w fun e w' => e = .returned (.bool (decide (l = l2))) ∧ w = w' := by
  have e1 := conv_str (P := Try.prog) h1 28 9 5 Try.underlying28 Try.underlying5 Try.underlying9
  have e2 := conv_str (P := Try.prog) h2 28 9 5 Try.underlying28 Try.underlying5 Try.underlying9
  clear h1 h2
  go_enter Try.func60, Try.ntmps60
  go_wp2
  go_ret
  refine ⟨?_, rfl⟩
  simp [strOf_toList, beq_dec]

end Go.Proofs.Ytbjmojajhkhekaa
