/- Helpers of the statements of layer 8: same, light. -/
import Derived.Test.YtahphlcahaheiaaOneD
namespace Go.Proofs.Ytahphlcahaheiaa
open Go.RowKit

def numAt (xs : List Nat) (i : Nat) : Nat := xs.getD i 0
theorem nums_at {w : World} {A : Option Addr} {n c : Nat} {xs : List Nat} (h : Rd w 1 A n c (xs.map numV)) {i : Nat} (hi : i < n) : ∃ b off, A = some ⟨b, off, none⟩ ∧ w.cell? ⟨b, off + i, none⟩ = some (.int .i64 (numAt xs i)) := by
  have hl : xs.length = n := by have := h.1; simpa using this
  exact h.2.2.2 i _ (by simp [numAt, numV, List.getD, hl, hi])
set_option maxRecDepth 100000 in
set_option maxHeartbeats 4000000 in
theorem sameInts_true (A : Option Addr) (n c : Nat) (xs : List Nat) (A2 : Option Addr) (c2 : Nat) (w : World) (h1 : Rd w 1 A n c (xs.map numV)) (h2 : Rd w 1 A2 n c2 (xs.map numV)) :
    Calls Try.prog 33 #[.slice A n c, .slice A2 n c2] w fun e w' => e = .returned (.bool true) ∧ Below w.heap.size w w' := by
  have q1 := h1.2.1
  have q2 : c ≤ 9223372036854775807 := by have := h1.2.2.1; unfold maxLen at this; omega
  have q3 := h2.2.1
  have q4 : c2 ≤ 9223372036854775807 := by have := h2.2.2.1; unfold maxLen at this; omega
  have F1 := Lib.hid h1
  have F2 := Lib.hid h2
  clear h1 h2
  go_enter Try.func33, Try.ntmps33
  go_wp2
  go_loopw [5] (fun i wr => ∃ k : Nat, k ≤ n ∧ i = .int .i64 k ∧ Below w.heap.size w wr) (fun i _ => n - (intOf i).toNat)
  case atStart => exact ⟨0, Nat.zero_le _, rfl, Below.refl _ _⟩
  case round =>
    obtain ⟨k, hk, rfl, hbr⟩ := hrel
    by_cases hkn : k < n
    · have hki : (k : Int) < (n : Int) := by omega
      obtain ⟨b, off, rfl, hc0⟩ := nums_at (F1.out.stays hbr) hkn
      obtain ⟨b2, off2, rfl, hc02⟩ := nums_at (F2.out.stays hbr) hkn
      generalize numAt xs k = x at *
      go_wp2_with fail
      refine region_still (by kernel_rfl) (by kernel_rfl) ?_
      repeat ((with_reducible refine wpStill_step (fun K hK => ?_)); go_simp; (with_reducible refine hK _ ?_); clear hK K)
      refine wpStill_nil ?_
      go_wp2
      go_roundw
      case rel => exact ⟨k + 1, by omega, by go_num, hbr.drew⟩
      case measure => simp [intOf]; omega
    · obtain rfl : k = n := by omega
      go_wp2
      go_ret
      exact ⟨rfl, hbr⟩
/-- Some truth value, and the world as it was. -/
def SomeBool (w : World) (e : Ending) (w' : World) : Prop := ∃ v : Bool, e = .returned (.bool v) ∧ w = w'
set_option maxRecDepth 100000 in
set_option maxHeartbeats 4000000 in
theorem light_any (A : Option Addr) (n c : Nat) (ls : List (List UInt8)) (w : World) (h1 : Lists w A n c ls) :
    Calls Try.prog 30 #[.slice A n c] w (SomeBool w) := by
  have q1 := h1.le
  have q2 := h1.cap
  have F1 := Lib.hid h1
  clear h1
  by_cases hn : 40 < n
  · have hni : (n : Int) > 40 := by omega
    go_enter Try.func30, Try.ntmps30
    go_wp2
    go_ret
    exact ⟨false, rfl, rfl⟩
  have hni : ¬ (n : Int) > 40 := by omega
  go_enter Try.func30, Try.ntmps30
  go_wp2
  go_loop [3] (fun i => ∃ k : Nat, k ≤ n ∧ i = .int .i64 k) (fun i => n - (intOf i).toNat)
  case atStart => exact ⟨0, Nat.zero_le _, rfl⟩
  case round =>
    obtain ⟨k, hk, rfl⟩ := hrel
    by_cases hkn : k < n
    · have hki : (k : Int) < (n : Int) := by omega
      obtain ⟨b, off, A', n', c', rfl, hc0, hy⟩ := F1.out.at_ hkn
      have y1 := hy.le
      have y2 := hy.cap
      clear hy
      by_cases hb : 40 < n'
      · have hb1 : (n' : Int) > 40 := by omega
        go_wp2
        go_ret
        exact ⟨false, rfl, rfl⟩
      · have hb1 : ¬ (n' : Int) > 40 := by omega
        go_wp2
        go_round
        case rel => exact ⟨k + 1, by omega, by go_num⟩
        case measure => simp [intOf]; omega
    · obtain rfl : k = n := by omega
      go_wp2
      go_ret
      exact ⟨true, rfl, rfl⟩
end Go.Proofs.Ytahphlcahaheiaa
