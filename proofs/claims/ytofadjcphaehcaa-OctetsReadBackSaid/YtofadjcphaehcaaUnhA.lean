/- octets.Unhex: the bytes of a text; the plain law of the digits. -/
import Derived.Test.YtofadjcphaehcaaHex
import Derived.Test.YtofadjcphaehcaaPut
import Derived.Laws.Externs
namespace Go.Proofs.Ytofadjcphaehcaa
open Go.RowKit

/-- The value of a digit. -/
def hexV (c : Nat) : Option Nat := if 48 ≤ c ∧ c ≤ 57 then some (c - 48) else if 97 ≤ c ∧ c ≤ 102 then some (c - 87) else none
def hexI (c : Nat) : Int := match hexV c with | some d => (d : Int) | none => -1
theorem idx_hex : ∀ c < 256, firstIdx ⟨#[48, 49, 50, 51, 52, 53, 54, 55, 56, 57, 97, 98, 99, 100, 101, 102]⟩ (UInt8.ofNat c) = hexI c := by decide +kernel
theorem hexV_lt : ∀ c < 256, ∀ d, hexV c = some d → d < 16 := by
  intro c _ d h
  unfold hexV at h
  split at h
  · injection h; omega
  · split at h
    · injection h; omega
    · cases h
def dU (s : List UInt8) (i : Nat) : Nat := (hexV (byteAt s i)).getD 0
theorem dU_lt (s : List UInt8) (i : Nat) : dU s i < 16 := by
  unfold dU
  cases h : hexV (byteAt s i) with
  | none => simp
  | some d => exact hexV_lt _ (byteAt_lt s i) d h
def good (s : List UInt8) (i : Nat) : Prop := (hexV (byteAt s i)).isSome = true
theorem hexI_good {s : List UInt8} {i : Nat} (h : good s i) : hexI (byteAt s i) = (dU s i : Int) := by
  unfold good at h
  unfold hexI dU
  cases hh : hexV (byteAt s i) with
  | none => rw [hh] at h; cases h
  | some d => rfl
theorem hexI_bad {s : List UInt8} {i : Nat} (h : ¬ good s i) : hexI (byteAt s i) = -1 := by
  unfold good at h
  unfold hexI
  cases hh : hexV (byteAt s i) with
  | none => rfl
  | some d => rw [hh] at h; exact absurd rfl h
def pairU (s : List UInt8) (k : Nat) : UInt8 := UInt8.ofNat (16 * dU s (2 * k) + dU s (2 * k + 1))
def unhexR (s : List UInt8) (n : Nat) : List UInt8 := (List.range n).map (pairU s)
def rowU (s : List UInt8) (n j : Nat) : List UInt8 := (List.range n).map fun k => if 2 * k + 1 < j then pairU s k else if 2 * k < j then UInt8.ofNat (dU s (2 * k)) else 0
def okU (s : List UInt8) : Prop := s.length % 2 = 0 ∧ ∀ i, i < s.length → good s i
theorem rowU_len (s : List UInt8) (n j : Nat) : (rowU s n j).length = n := by simp [rowU]
theorem rowU_zero (s : List UInt8) (n : Nat) : rowU s n 0 = List.replicate n 0 := by
  apply List.ext_getElem
  · simp [rowU]
  · intro i h1 h2; simp [rowU]
theorem rowU_end (s : List UInt8) (n : Nat) : rowU s n (2 * n) = unhexR s n := by
  apply List.ext_getElem
  · simp [rowU, unhexR]
  · intro i h1 h2
    have : i < n := by simpa [rowU] using h1
    simp [rowU, unhexR, show 2 * i + 1 < 2 * n by omega]
theorem rowU_at (s : List UInt8) (n j : Nat) (h : j < 2 * n) : byteAt (rowU s n j) (j / 2) = if j % 2 = 0 then 0 else dU s (j - 1) := by
  have hd := dU_lt s (j - 1)
  have hl : j / 2 < (rowU s n j).length := by rw [rowU_len]; omega
  have e : byteAt (rowU s n j) (j / 2) = ((rowU s n j)[j / 2]).toNat := by simp [byteAt, List.getD, hl]
  rw [e]
  simp only [rowU, List.getElem_map, List.getElem_range]
  by_cases h0 : j % 2 = 0
  · rw [if_pos h0, if_neg (by omega), if_neg (by omega)]; rfl
  · rw [if_neg h0, if_neg (by omega), if_pos (by omega), show 2 * (j / 2) = j - 1 by omega]
    simp; omega
theorem rowU_set (s : List UInt8) (n j : Nat) (h : j < 2 * n) (x : UInt8) (hx : x = UInt8.ofNat ((if j % 2 = 0 then 0 else dU s (j - 1)) * 16 + dU s j)) : (rowU s n j).set (j / 2) x = rowU s n (j + 1) := by
  apply List.ext_getElem
  · simp [rowU]
  · intro i h1 h2
    have hi : i < n := by simpa [rowU] using h2
    rw [List.getElem_set]
    split
    · rename_i he
      subst he
      rw [hx]
      simp only [rowU, List.getElem_map, List.getElem_range]
      by_cases h0 : j % 2 = 0
      · rw [if_pos h0, if_neg (by omega), if_pos (by omega), show 2 * (j / 2) = j by omega]; simp
      · rw [if_neg h0, if_pos (by omega)]
        unfold pairU
        rw [show 2 * (j / 2) = j - 1 by omega, show j - 1 + 1 = j by omega, Nat.mul_comm]
    · rename_i he
      simp only [rowU, List.getElem_map, List.getElem_range]
      by_cases h1 : 2 * i + 1 < j
      · rw [if_pos h1, if_pos (by omega)]
      · rw [if_neg h1]
        by_cases h2 : 2 * i < j
        · rw [if_pos h2]
          by_cases h3 : 2 * i + 1 < j + 1
          · exfalso; omega
          · rw [if_neg h3, if_pos (by omega)]
        · rw [if_neg h2, if_neg (by omega), if_neg (by omega)]
theorem shl_or : ∀ v < 16, ∀ d < 16, bits .or .u8 (((v * 16 : Nat) : Int)) ((d : Nat) : Int) = ((v * 16 + d : Nat) : Int) := by decide +kernel

set_option maxRecDepth 100000 in
set_option maxHeartbeats 1000000 in
theorem stringslite_any (c : Nat) (hc : c < 256) (w : World) :
    Calls Try.prog 92 #[.string ⟨#[48, 49, 50, 51, 52, 53, 54, 55, 56, 57, 97, 98, 99, 100, 101, 102]⟩, .int .u8 c] w fun e w' => e = .returned (.int .i64 (hexI c)) ∧ w' = w := by
  have hx := idx_hex c hc
  go_enter Try.func92, Try.ntmps92
  go_wp2
  rw [run_callFunc_extern Try.func107 (by kernel_rfl) (by kernel_rfl) (by kernel_rfl) (e := Extern.BytealgIndexByte.indexByte) (by kernel_rfl)]
  rw [run_indexByte_string]
  simp only [Result.andThen]
  rw [Oper.upon_value]
  go_wp2
  go_ret
  refine ⟨?_, rfl⟩
  rw [← hx]
  simp
theorem index_any (c : Nat) (hc : c < 256) (w : World) :
    Calls Try.prog 67 #[.string ⟨#[48, 49, 50, 51, 52, 53, 54, 55, 56, 57, 97, 98, 99, 100, 101, 102]⟩, .int .u8 c] w fun e w' => e = .returned (.int .i64 (hexI c)) ∧ w' = w := by
  have H := Lib.hid (stringslite_any c hc)
  go_enter Try.func67, Try.ntmps67
  go_wp2_with fail
  refine (H.out _).mono ?_
  rintro e w1 ⟨rfl, rfl⟩
  go_wp2
  go_ret
  exact ⟨rfl, rfl⟩
end Go.Proofs.Ytofadjcphaehcaa
