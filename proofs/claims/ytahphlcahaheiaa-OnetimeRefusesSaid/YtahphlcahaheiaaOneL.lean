/- One-time signatures in plain Lean, and their laws: no program in sight. -/
import Derived.Test.YtahphlcahaheiaaSha
import Derived.Test.YtahphlcahaheiaaDigL
namespace Go.Proofs.Ytahphlcahaheiaa
open Go.RowKit

def beginL (seed : List UInt8) (index c : Nat) : List UInt8 := shortL (seed ++ putL index 4 ++ [UInt8.ofNat c])
/-- The ends of the chains from lists and numbers of steps. -/
def endsL (xs : List (List UInt8)) (f : Nat → Nat) : Nat → List UInt8
  | 0 => []
  | j + 1 => endsL xs f j ++ chainL (xs.getD j []) (f j)
def publicTo (seed : List UInt8) (index : Nat) : Nat → List UInt8
  | 0 => []
  | j + 1 => publicTo seed index j ++ chainL (beginL seed index j) 15
def publicL (seed : List UInt8) (index : Nat) : List UInt8 := shortL (publicTo seed index 35)
def signTo (seed : List UInt8) (index : Nat) (f : Nat → Nat) : Nat → List (List UInt8)
  | 0 => []
  | j + 1 => signTo seed index f j ++ [chainL (beginL seed index j) (f j)]
def signL (seed : List UInt8) (index : Nat) (d : List UInt8) : List (List UInt8) := signTo seed index (digN d) 35
def recoverL (d : List UInt8) (xs : List (List UInt8)) : List UInt8 := shortL (endsL xs (fun j => 15 - digN d j) 35)
theorem signTo_length (seed : List UInt8) (index : Nat) (f : Nat → Nat) : ∀ j, (signTo seed index f j).length = j
  | 0 => rfl
  | j + 1 => by simp [signTo, signTo_length seed index f j]
theorem signTo_at (seed : List UInt8) (index : Nat) (f : Nat → Nat) (i : Nat) : ∀ j, i < j → (signTo seed index f j).getD i [] = chainL (beginL seed index i) (f i)
  | 0, h => by omega
  | j + 1, h => by
    by_cases e : i = j
    · subst e; simp [signTo, List.getD, signTo_length]
    · have h2 : i < (signTo seed index f j).length := by rw [signTo_length]; omega
      have := signTo_at seed index f i j (by omega)
      rw [signTo, List.getD, List.getElem?_append_left h2]
      exact this
theorem beginL_length (seed : List UInt8) (i c : Nat) : (beginL seed i c).length = 16 := shortL_length _
theorem signTo_len16 (seed : List UInt8) (index : Nat) (f : Nat → Nat) (i j : Nat) (h : i < j) : ((signTo seed index f j).getD i []).length = 16 := by
  rw [signTo_at _ _ _ _ _ h]
  rcases Nat.eq_zero_or_pos (f i) with h0 | h0
  · rw [h0]; exact beginL_length _ _ _
  · exact chainL_length _ _ h0
/-- A signature gives the public key back. -/
theorem recover_sign (seed : List UInt8) (index : Nat) (d : List UInt8) : recoverL d (signL seed index d) = publicL seed index := by
  unfold recoverL publicL signL
  refine congrArg shortL ?_
  suffices h : ∀ j, j ≤ 35 → endsL (signTo seed index (digN d) 35) (fun j => 15 - digN d j) j = publicTo seed index j from h 35 (Nat.le_refl _)
  intro j
  induction j with
  | zero => intro _; rfl
  | succ j ih =>
    intro hj
    have h15 := digN_le d j
    rw [endsL, publicTo, ih (by omega), signTo_at _ _ _ _ _ (by omega), chainL_add, show digN d j + (15 - digN d j) = 15 by omega]
end Go.Proofs.Ytahphlcahaheiaa
