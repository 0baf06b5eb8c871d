/- HMAC and HKDF in plain Lean, and their laws: no program in sight. -/
import Derived.Test.YticknkaohjkjpaaSha
namespace Go.Proofs.Yticknkaohjkjpaa
open Go.RowKit

def padK (k : List UInt8) : List UInt8 := k ++ List.replicate (64 - k.length) 0
def maskL (k : List UInt8) (m : UInt8) : List UInt8 := (padK k).map (· ^^^ m)
def shortK (k : List UInt8) : List UInt8 := if 64 < k.length then sumL k else k
def macL (key b : List UInt8) : List UInt8 := sumL (maskL (shortK key) 92 ++ sumL (maskL (shortK key) 54 ++ b))
/-- The j-th block of Expand, the first one at 1. -/
def lastE (key info : List UInt8) : Nat → List UInt8
  | 0 => []
  | j + 1 => macL key (lastE key info j ++ info ++ [UInt8.ofNat (j + 1)])
def outE (key info : List UInt8) : Nat → List UInt8
  | 0 => []
  | j + 1 => outE key info j ++ lastE key info (j + 1)
def expandL (key info : List UInt8) (n : Nat) : List UInt8 := (outE key info ((n + 31) / 32)).take n
def labelL (p n c : List UInt8) : List UInt8 := p ++ 0 :: (n ++ 0 :: sumL c)
theorem macL_length (k b : List UInt8) : (macL k b).length = 32 := sumL_length _
theorem lastE_length (k i : List UInt8) (j : Nat) : (lastE k i (j + 1)).length = 32 := macL_length _ _
theorem outE_length (k i : List UInt8) : ∀ j, (outE k i j).length = 32 * j
  | 0 => rfl
  | j + 1 => by rw [outE, List.length_append, outE_length k i j, lastE_length]; omega
theorem outE_take (k i : List UInt8) (n j : Nat) (h : n ≤ 32 * j) : ∀ m, (outE k i (j + m)).take n = (outE k i j).take n
  | 0 => rfl
  | m + 1 => by
    rw [← Nat.add_assoc, outE, List.take_append_of_le_length (by rw [outE_length]; omega)]
    exact outE_take k i n j h m
/-- However many blocks there are. -/
theorem expandL_of (k i : List UInt8) (n j : Nat) (h : n ≤ 32 * j) : (outE k i j).take n = expandL k i n := by
  have h1 : n ≤ 32 * ((n + 31) / 32) := by omega
  unfold expandL
  rcases Nat.le_total j ((n + 31) / 32) with hj | hj
  · rw [← outE_take k i n j h ((n + 31) / 32 - j)]; congr 2; omega
  · rw [← outE_take k i n _ h1 (j - (n + 31) / 32)]; congr 2; omega
theorem expandL_length (k i : List UInt8) (n : Nat) : (expandL k i n).length = n := by
  unfold expandL
  rw [List.length_take, outE_length]; omega
theorem expandL_take (k i : List UInt8) (n m : Nat) (h : m ≤ n) : (expandL k i n).take m = expandL k i m := by
  rw [expandL, List.take_take, Nat.min_eq_left h]
  exact expandL_of k i m _ (by omega)
theorem padK_zeros (k : List UInt8) (n : Nat) (h : k.length + n ≤ 64) : padK (k ++ List.replicate n 0) = padK k := by
  unfold padK
  rw [List.append_assoc, List.replicate_append_replicate, List.length_append, List.length_replicate]
  congr 2; omega
/-- Zeros behind a key of at most 64 bytes do not matter. -/
theorem macL_zeros (k b : List UInt8) (n : Nat) (h : k.length + n ≤ 64) : macL (k ++ List.replicate n 0) b = macL k b := by
  unfold macL maskL shortK
  rw [if_neg (by simp; omega), if_neg (by omega), padK_zeros k n h]
theorem labelL_length (p n c : List UInt8) : (labelL p n c).length = p.length + n.length + 34 := by
  simp [labelL, sumL_length]; omega
theorem cut_zero (a b c d : List UInt8) (ha : 0 ∉ a) (hc : 0 ∉ c) (h : a ++ 0 :: b = c ++ 0 :: d) : a = c ∧ b = d := by
  induction a generalizing c with
  | nil =>
    cases c with
    | nil => simp at h; exact ⟨rfl, h⟩
    | cons y c => simp at h; simp at hc; exact absurd h.1 hc.1
  | cons x a ih =>
    cases c with
    | nil => simp at h; simp at ha; exact absurd h.1.symm ha.1
    | cons y c =>
      simp at h ha hc
      obtain ⟨rfl, h⟩ := h
      obtain ⟨rfl, rfl⟩ := ih c ha.2 hc.2 h
      exact ⟨rfl, rfl⟩
/-- Labels tell prefix and name, where neither has a zero. -/
theorem labelL_inj (a b c d x : List UInt8) (ha : 0 ∉ a) (hb : 0 ∉ b) (hc : 0 ∉ c) (hd : 0 ∉ d) : labelL a b x = labelL c d x ↔ a = c ∧ b = d := by
  refine ⟨fun h => ?_, fun ⟨h1, h2⟩ => by rw [h1, h2]⟩
  obtain ⟨h1, h2⟩ := cut_zero _ _ _ _ ha hc h
  exact ⟨h1, (cut_zero _ _ _ _ hb hd h2).1⟩
theorem mac_jefe : macL [74, 101, 102, 101] [119, 104, 97, 116, 32, 100, 111, 32, 121, 97, 32, 119, 97, 110, 116, 32, 102, 111, 114, 32, 110, 111, 116, 104, 105, 110, 103, 63] = [0x5b, 0xdc, 0xc1, 0x46, 0xbf, 0x60, 0x75, 0x4e, 0x6a, 0x04, 0x24, 0x26, 0x08, 0x95, 0x75, 0xc7, 0x5a, 0x00, 0x3f, 0x08, 0x9d, 0x27, 0x39, 0x83, 0x9d, 0xec, 0x58, 0xb9, 0x64, 0xec, 0x38, 0x43] := by decide +kernel
end Go.Proofs.Yticknkaohjkjpaa
