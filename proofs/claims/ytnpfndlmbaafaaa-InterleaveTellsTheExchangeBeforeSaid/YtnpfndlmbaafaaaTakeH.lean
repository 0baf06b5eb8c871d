/- The beginning of a region whose order is open, at a world under a name of its own. -/
import Derived.Test.YtnpfndlmbaafaaaTake
namespace Go.Proofs.Ytnpfndlmbaafaaa
open Go Go.RowKit
theorem take_begin {P : Program} {ops : Array Oper} {Q : Exit → Act → World → Prop} {S : World → Prop} {id : Nat} {a : Act} {w : World} (hm : P.follows .mixedOrders = true) (hQ : PQ Q) (hS : S w.drew)
    (h : PQ Q → ∀ wd, Below w.heap.size w wd → S wd → wpAnyH P .any ops Q S ops.size (Array.replicate ops.size false) a wd) : (Code.region id ops true).wp P Q a w :=
  take_start hm hQ hS fun hPQ hSd => h hPQ _ (Below.refl _ _).drew hSd
end Go.Proofs.Ytnpfndlmbaafaaa
