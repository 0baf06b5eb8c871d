/- slices.Index and slices.Contains over strings. -/
import Derived.Test.YtnpfndlmbaafaaaBase
namespace Go.Proofs.Ytnpfndlmbaafaaa
open Go.RowKit

/-- The first place of s in l. -/
def idxOf (s : ByteArray) : List ByteArray → Nat
  | [] => 0
  | x :: l => if s.toList == x.toList then 0 else idxOf s l + 1

set_option maxHeartbeats 400000 in
theorem index_yes (A : Option Addr) (n c : Nat) (l : List ByteArray) (s : ByteArray) (w : World) (hv : Strs w A n c l) (k : Nat) (hk : k < n)
    (hno : ∀ i, i < k → (s.toList == (strAt l i).toList) = false) (hyes : (s.toList == (strAt l k).toList) = true) :
    Calls Try.prog 63 #[.slice A n c, .string s] w fun e w' => e = .returned (.int .i64 k) ∧ w = w' := by
  have hcap := hv.cap
  have hle := hv.le
  have hcell := fun i (h : i < n) => hv.at_ h
  have HC := Lib.hid hcell
  have HN := Lib.hid hno
  have HY := Lib.hid hyes
  clear hcell hno hyes hv
  go_enter Try.func63, Try.ntmps63
  go_wp2
  go_loop [8] (fun i => ∃ j : Nat, j ≤ k ∧ i = .int .i64 j) (fun i => k - (intOf i).toNat)
  case atStart => exact ⟨0, Nat.zero_le _, rfl⟩
  case round =>
    obtain ⟨j, hj, rfl⟩ := hrel
    obtain ⟨b, off, rfl, hc⟩ := HC.out j (by omega)
    have hjl : j < n := by omega
    by_cases hjk : j < k
    · have hn := HN.out j hjk
      go_wp2
      go_round
      case rel => exact ⟨j + 1, by omega, by go_num⟩
      case measure => simp [intOf]; omega
    · obtain rfl : j = k := by omega
      have hn := HY.out
      go_wp2
      go_ret
      exact ⟨rfl, rfl⟩

set_option maxHeartbeats 400000 in
theorem index_no (A : Option Addr) (n c : Nat) (l : List ByteArray) (s : ByteArray) (w : World) (hv : Strs w A n c l)
    (hno : ∀ i, i < n → (s.toList == (strAt l i).toList) = false) :
    Calls Try.prog 63 #[.slice A n c, .string s] w fun e w' => e = .returned (.int .i64 (-1)) ∧ w = w' := by
  have hcap := hv.cap
  have hle := hv.le
  have hcell := fun i (h : i < n) => hv.at_ h
  have HC := Lib.hid hcell
  have HN := Lib.hid hno
  clear hv hcell hno
  go_enter Try.func63, Try.ntmps63
  go_wp2
  go_loop [8] (fun i => ∃ j : Nat, j ≤ n ∧ i = .int .i64 j) (fun i => n - (intOf i).toNat)
  case atStart => exact ⟨0, Nat.zero_le _, rfl⟩
  case round =>
    obtain ⟨j, hj, rfl⟩ := hrel
    by_cases hjk : j < n
    · obtain ⟨b, off, rfl, hc⟩ := HC.out j hjk
      have hn := HN.out j hjk
      go_wp2
      go_round
      case rel => exact ⟨j + 1, by omega, by go_num⟩
      case measure => simp [intOf]; omega
    · go_wp2
      go_ret
      exact ⟨rfl, rfl⟩

theorem contains_yes (A : Option Addr) (n c : Nat) (l : List ByteArray) (s : ByteArray) (w : World) (hv : Strs w A n c l) (k : Nat) (hk : k < n)
    (hno : ∀ i, i < k → (s.toList == (strAt l i).toList) = false) (hyes : (s.toList == (strAt l k).toList) = true) :
    Calls Try.prog 48 #[.slice A n c, .string s] w fun e w' => e = .returned (.bool true) ∧ w = w' := by
  have C := Lib.hid (index_yes A n c l s w hv k hk hno hyes)
  clear hno hyes hv
  go_enter Try.func48, Try.ntmps48
  go_wp2_with fail
  refine C.out.mono ?_
  rintro e w' ⟨rfl, rfl⟩
  go_wp2
  go_ret
  exact ⟨rfl, rfl⟩

theorem contains_no (A : Option Addr) (n c : Nat) (l : List ByteArray) (s : ByteArray) (w : World) (hv : Strs w A n c l)
    (hno : ∀ i, i < n → (s.toList == (strAt l i).toList) = false) :
    Calls Try.prog 48 #[.slice A n c, .string s] w fun e w' => e = .returned (.bool false) ∧ w = w' := by
  have C := Lib.hid (index_no A n c l s w hv hno)
  clear hno hv
  go_enter Try.func48, Try.ntmps48
  go_wp2_with fail
  refine C.out.mono ?_
  rintro e w' ⟨rfl, rfl⟩
  go_wp2
  go_ret
  exact ⟨rfl, rfl⟩
end Go.Proofs.Ytnpfndlmbaafaaa
