/- The walk of PersistChoosesTheNewest. -/
import Derived.Test.YtbjmojajhkhekaaPsN1
import Derived.Test.YtbjmojajhkhekaaPsN2
import Derived.Test.YtbjmojajhkhekaaPsN3
import Derived.Test.YtbjmojajhkhekaaPsN4
import Derived.Test.YtbjmojajhkhekaaPsN5
namespace Go.Proofs.Ytbjmojajhkhekaa
open Go.RowKit

theorem persistNewest_walk (A0 : Option Addr) (n0 c0 : Nat) (l : List Int) (x y z : Int) (w : World) (hv : Rd w 1 A0 n0 c0 (l.map (Value.int .i64))) :
    Calls Try.prog 7 #[.slice A0 n0 c0, .int .i64 x, .int .i64 y, .int .i64 z] w fun e w' => e = .returned (.bool true) ∧ Below w.heap.size w w' := by
  have h0 := Int.emod_nonneg z (show (5 : Int) ≠ 0 by decide)
  have h1 := Int.emod_lt_of_pos z (show (0 : Int) < 5 by decide)
  rcases (by omega : z % 5 = 0 ∨ z % 5 = 1 ∨ z % 5 = 2 ∨ z % 5 = 3 ∨ z % 5 = 4) with h | h | h | h | h
  · exact persistNewest_0 A0 n0 c0 l x y z w hv h
  · exact persistNewest_1 A0 n0 c0 l x y z w hv h
  · exact persistNewest_2 A0 n0 c0 l x y z w hv h
  · exact persistNewest_3 A0 n0 c0 l x y z w hv h
  · exact persistNewest_4 A0 n0 c0 l x y z w hv h
end Go.Proofs.Ytbjmojajhkhekaa
