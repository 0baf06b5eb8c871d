/- bytes.Equal, octets.Same -/
import Derived.Test.YtahphlcahaheiaaSame
namespace Go.Proofs.Ytahphlcahaheiaa
open Go.RowKit

set_option maxHeartbeats 1000000 in
theorem bytesEqual_any (A : Option Addr) (n c : Nat) (l : List UInt8) (A2 : Option Addr) (n2 c2 : Nat) (l2 : List UInt8) (w : World) (h1 : Bytes w A n c l) (h2 : Bytes w A2 n2 c2 l2) :
    Calls Try.prog 94 #[.slice A n c, .slice A2 n2 c2] w fun e w' => e = .returned (.bool (decide (l = l2))) ∧ w = w' := by
  have e1 := conv_str (P := Try.prog) h1 22 9 5 Try.underlying22 Try.underlying5 Try.underlying9
  have e2 := conv_str (P := Try.prog) h2 22 9 5 Try.underlying22 Try.underlying5 Try.underlying9
  clear h1 h2
  go_enter Try.func94, Try.ntmps94
  go_wp2
  go_ret
  refine ⟨?_, rfl⟩
  simp [strOf_toList, beq_dec]

theorem octSame_any (A : Option Addr) (n c : Nat) (l : List UInt8) (A2 : Option Addr) (n2 c2 : Nat) (l2 : List UInt8) (w : World) (h1 : Bytes w A n c l) (h2 : Bytes w A2 n2 c2 l2) :
    Calls Try.prog 77 #[.slice A n c, .slice A2 n2 c2] w fun e w' => e = .returned (.bool (decide (l = l2))) ∧ w = w' := by
  have C := Lib.hid (bytesEqual_any A n c l A2 n2 c2 l2 w h1 h2)
  clear h1 h2
  go_enter Try.func77, Try.ntmps77
  go_wp2_with fail
  refine C.out.mono ?_
  rintro e w' ⟨rfl, rfl⟩
  go_wp2
  go_ret
  exact ⟨rfl, rfl⟩
end Go.Proofs.Ytahphlcahaheiaa
