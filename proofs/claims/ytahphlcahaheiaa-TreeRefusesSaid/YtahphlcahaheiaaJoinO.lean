/- octets.Join -/
import Derived.Test.YtahphlcahaheiaaConcat
namespace Go.Proofs.Ytahphlcahaheiaa
open Go.RowKit

/-- What Join gives, the new row without its place. -/
theorem join_any (A : Option Addr) (n c : Nat) (ls : List (List UInt8)) (w : World) (hv : Lists w A n c ls) (T : Nat) (hT : ls.flatten.length = T) (ht : T ≤ 1099511627776) :
    Calls Try.prog 69 #[.slice A n c] w fun e w' => ∃ A' c', e = .returned (.slice A' T c') ∧
      w'.ownsRow w.heap.size 5 1 (.slice A' T c') T (ls.flatten.map byteV) ∧ Below w.heap.size w w' := by
  have C := Lib.hid (concat_any A n c ls w hv T hT ht)
  clear hv hT ht
  go_enter Try.func69, Try.ntmps69
  go_wp2_with fail
  refine C.out.mono ?_
  rintro e w1 ⟨A', c', rfl, hown, hb⟩
  have H := Lib.hid hown
  clear hown
  go_wp2
  go_ret
  exact ⟨A', c', rfl, H.out, hb⟩

end Go.Proofs.Ytahphlcahaheiaa
