/- cmp.Or[int] of two; exact.Compare. -/
import Derived.Test.YtfkckokaclkjnaaCmpUG
import Derived.Test.YtfkckokaclkjnaaBlk
namespace Go.Proofs.Ytfkckokaclkjnaa
open Go Go.RowKit

def orI (u v : Int) : Int := if u = 0 then v else u
def cmp128 (a b c d : Nat) : Int := orI (cmpI (a * b / 18446744073709551616) (c * d / 18446744073709551616)) (cmpI (a * b % 18446744073709551616) (c * d % 18446744073709551616))
end Go.Proofs.Ytfkckokaclkjnaa
