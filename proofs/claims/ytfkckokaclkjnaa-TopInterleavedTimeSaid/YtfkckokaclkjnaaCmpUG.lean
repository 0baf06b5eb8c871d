/- cmp.Compare[uint64]. -/
import Derived.Test.YtfkckokaclkjnaaQuot
namespace Go.Proofs.Ytfkckokaclkjnaa
open Go Go.RowKit

def cmpI (x y : Nat) : Int := if x < y then -1 else if y < x then 1 else 0
end Go.Proofs.Ytfkckokaclkjnaa
