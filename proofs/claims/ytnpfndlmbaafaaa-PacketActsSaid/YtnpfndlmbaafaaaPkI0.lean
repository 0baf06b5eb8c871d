/- packet.Decode: single bytes. -/
import Derived.Test.YtnpfndlmbaafaaaPkL
import Derived.Test.YtnpfndlmbaafaaaBlks
import Derived.Test.YtnpfndlmbaafaaaHdRes
import Derived.Outline
import Derived.Deep.RegionWith
namespace Go.Proofs.Ytnpfndlmbaafaaa
open Go.RowKit

theorem be64_one (l : List UInt8) : be64 l 1 = byteAt l 0 := by
  cases l with
  | nil => rfl
  | cons x l =>
    have := UInt8.toNat_lt x
    simp [be64, be, byteAt]
theorem be64_drop1 (l : List UInt8) (i : Nat) : be64 (l.drop i) 1 = byteAt l i := by
  rw [be64_one]; simp [byteAt]
end Go.Proofs.Ytnpfndlmbaafaaa
