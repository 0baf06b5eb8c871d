/- The bytes that follow from a number (sectimeworld.Bytes) in plain Lean. -/
import Derived.Test.YtahphlcahaheiaaSha
namespace Go.Proofs.Ytahphlcahaheiaa
open Go.RowKit

def ctrL (s i : Nat) : List UInt8 := sumL (putL s 8 ++ putL i 4)
def streamL (s : Nat) : Nat → List UInt8
  | 0 => []
  | j + 1 => streamL s j ++ ctrL s j
def wbytesL (s n : Nat) : List UInt8 := (streamL s ((n + 31) / 32)).take n
theorem ctrL_length (s i : Nat) : (ctrL s i).length = 32 := sumL_length _
theorem streamL_length (s : Nat) : ∀ j, (streamL s j).length = 32 * j
  | 0 => rfl
  | j + 1 => by rw [streamL, List.length_append, streamL_length s j, ctrL_length]; omega
theorem streamL_take (s n j : Nat) (h : n ≤ 32 * j) : ∀ m, (streamL s (j + m)).take n = (streamL s j).take n
  | 0 => rfl
  | m + 1 => by
    rw [← Nat.add_assoc, streamL, List.take_append_of_le_length (by rw [streamL_length]; omega)]
    exact streamL_take s n j h m
theorem wbytesL_of (s n j : Nat) (h : n ≤ 32 * j) : (streamL s j).take n = wbytesL s n := by
  have h1 : n ≤ 32 * ((n + 31) / 32) := by omega
  unfold wbytesL
  rcases Nat.le_total j ((n + 31) / 32) with hj | hj
  · rw [← streamL_take s n j h ((n + 31) / 32 - j)]; congr 2; omega
  · rw [← streamL_take s n _ h1 (j - (n + 31) / 32)]; congr 2; omega
theorem wbytesL_length (s n : Nat) : (wbytesL s n).length = n := by
  unfold wbytesL
  rw [List.length_take, streamL_length]; omega
end Go.Proofs.Ytahphlcahaheiaa
