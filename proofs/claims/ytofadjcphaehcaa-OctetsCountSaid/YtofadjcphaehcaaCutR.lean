/- sectimeref01.Cut. -/
import Derived.Test.YtofadjcphaehcaaCutM
import Derived.Test.YtofadjcphaehcaaCutN
namespace Go.Proofs.Ytofadjcphaehcaa
open Go.RowKit

theorem refCut_ok (l : List UInt8) (A : Option Addr) (n c k : Nat) (w : World) (h : Bytes w A n c l) (hk : k ≤ n) (hn : n ≤ 100000) :
    Calls Try.prog 42 #[.slice A n c, .int .i64 k] w fun e w' => ∃ A1 c1 A2 c2, e = .returned (.tuple #[.slice A1 k c1, .slice A2 (n - k) c2, .bool true]) ∧ Bytes w' A1 k c1 (l.take k) ∧ Bytes w' A2 (n - k) c2 (l.drop k) ∧ Below w.heap.size w w' := by
  by_cases hck : c = k
  · exact refCut_0 l A n c k w h hk hn hck
  · exact refCut_1 l A n c k w h hk hn hck
set_option maxRecDepth 100000 in
theorem refCut_bad (A : Option Addr) (n c : Nat) (k : Int) (w : World) (h : k < 0 ∨ (n : Int) < k) :
    Calls Try.prog 42 #[.slice A n c, .int .i64 k] w fun e w' => e = .returned (.tuple #[.slice none 0 0, .slice none 0 0, .bool false]) ∧ Below w.heap.size w w' := by
  by_cases hk : k < 0
  all_goals
    go_enter Try.func42, Try.ntmps42
    first
      | (have h2 : (n : Int) < k := by omega
         go_wp2
         go_returns
         exact ⟨rfl, by go_grown⟩)
      | (go_wp2
         go_returns
         exact ⟨rfl, by go_grown⟩)
end Go.Proofs.Ytofadjcphaehcaa
