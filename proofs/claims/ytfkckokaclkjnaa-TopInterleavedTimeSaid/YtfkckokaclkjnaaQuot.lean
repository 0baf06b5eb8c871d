/- exact.Quotient at a dividend that is not negative and a divisor of 30 bits. -/
import Derived.Test.YtfkckokaclkjnaaDivE
namespace Go.Proofs.Ytfkckokaclkjnaa
open Go Go.RowKit

set_option maxHeartbeats 4000000 in
theorem div64_any (P y : Nat) (w : World) (h1 : 536870912 ≤ y) (h2 : y < 1073741824) (hP : P / 18446744073709551616 < y) : Calls Try.prog 37 #[.int .u64 ((P / 18446744073709551616 : Nat) : Int), .int .u64 ((P % 18446744073709551616 : Nat) : Int), .int .u64 y] w fun e w' => e = .returned (.tuple #[.int .u64 ((P / y : Nat) : Int), .int .u64 ((P % y : Nat) : Int)]) ∧ Below w.heap.size w w' := by
  have hlo : P % 18446744073709551616 < 18446744073709551616 := Nat.mod_lt _ (by decide)
  have hPe := Nat.div_add_mod P 18446744073709551616
  obtain ⟨hi, hhi⟩ : ∃ hi, P / 18446744073709551616 = hi := ⟨_, rfl⟩
  obtain ⟨lo, hlo2⟩ : ∃ lo, P % 18446744073709551616 = lo := ⟨_, rfl⟩
  rw [hhi] at hP hPe ⊢
  rw [hlo2] at hlo hPe ⊢
  clear hhi hlo2
  by_cases h0 : hi = 0
  · subst h0
    have e : P = lo := by omega
    rw [e]
    exact div64_0 lo y w hlo h1 h2
  · have e : P = hi * 18446744073709551616 + lo := by omega
    rw [e]
    exact div64_hi hi lo y w hlo h1 h2 hP (by omega)
set_option maxHeartbeats 4000000 in
theorem magnitude_pos (a : Nat) (w : World) (h : a < 9223372036854775808) : Calls Try.prog 36 #[.int .i64 a] w fun e w' => e = .returned (.int .u64 a) ∧ w = w' := by
  have g1 : ¬ (a : Int) < 0 := by omega
  have g2 : IntKind.u64.wrap (a : Int) = (a : Int) := modn _ (by omega) (by omega)
  go_enter Try.func36, Try.ntmps36
  go_wp2
  go_ret
  exact ⟨rfl, rfl⟩
def quoN (p c : Nat) (up : Bool) : Nat := if (up && decide (0 < p % c)) = true then p / c + 1 else p / c
set_option maxRecDepth 100000 in
set_option maxHeartbeats 4000000 in
theorem quotient_pos (a b c : Nat) (up : Bool) (w : World) (ha : a < 9223372036854775808) (hb : b < 9223372036854775808) (h1 : 536870912 ≤ c) (h2 : c < 1073741824) (hq : a * b / c < 4611686018427387904) : Calls Try.prog 29 #[.int .i64 a, .int .i64 b, .int .i64 c, .bool up] w fun e w' => e = .returned (.int .i64 (quoN (a * b) c up)) ∧ Below w.heap.size w w' := by
  obtain ⟨P, hP⟩ : ∃ P, a * b = P := ⟨_, rfl⟩
  have hPy : P / 18446744073709551616 < c := by
    rw [hP] at hq
    have h3 : P < 4611686018427387904 * c := (Nat.div_lt_iff_lt_mul (by omega)).1 hq
    exact (Nat.div_lt_iff_lt_mul (by decide)).2 (by omega)
  have CM := Lib.hid (mul64_any a b (by omega) (by omega))
  rw [hP] at CM hq ⊢
  have CD := Lib.hid (fun w => div64_any P c w h1 h2 hPy)
  obtain ⟨q, hq1⟩ : ∃ q, P / c = q := ⟨_, rfl⟩
  obtain ⟨r, hr1⟩ : ∃ r, P % c = r := ⟨_, rfl⟩
  have HU : Hid (quoN P c up = if (up && decide (0 < r)) = true then q + 1 else q) := by unfold Hid quoN; rw [hq1, hr1]
  rw [hq1] at hq CD
  rw [hr1] at CD
  obtain ⟨hi, hhi⟩ : ∃ hi, P / 18446744073709551616 = hi := ⟨_, rfl⟩
  obtain ⟨lo, hlo⟩ : ∃ lo, P % 18446744073709551616 = lo := ⟨_, rfl⟩
  rw [hhi, hlo] at CM CD
  clear hP hPy hq1 hr1 hhi hlo
  have g1 : ¬ (a : Int) < 0 := by omega
  have g2 : IntKind.u64.wrap (b : Int) = (b : Int) := modn _ (by omega) (by omega)
  have g3 : IntKind.u64.wrap (c : Int) = (c : Int) := modn _ (by omega) (by omega)
  have g4 : IntKind.i64.wrap (q : Int) = (q : Int) := IntWalk.i64_in _ (by omega)
  obtain ⟨q1, hq1⟩ : ∃ q1, q + 1 = q1 := ⟨_, rfl⟩
  have g5 : IntKind.u64.wrap ((q : Int) + 1) = (q1 : Int) := by rw [modn _ (by omega) (by omega)]; omega
  have g6 : IntKind.i64.wrap (q1 : Int) = (q1 : Int) := IntWalk.i64_in _ (by omega)
  rw [hq1] at HU
  clear hq1
  go_enter Try.func29, Try.ntmps29
  go_wp2_with fail
  refine (magnitude_pos a _ ha).mono ?_
  rintro e q_ ⟨rfl, rfl⟩
  go_wp2_with fail
  refine (CM.out _).mono ?_
  rintro e q_ ⟨rfl, rfl⟩
  go_wp2_with fail
  refine (CD.out _).mono ?_
  rintro e y1 ⟨rfl, hb⟩
  have R2 := Lib.hid hb
  clear hb
  cases up with
  | false =>
    go_wp2
    go_ret
    exact ⟨by rw [HU.out]; rfl, R2.out⟩
  | true =>
    by_cases hr : 0 < r
    · have d1 : decide ((r : Int) > 0) = true := decide_eq_true (by omega)
      have d2 : decide ((0 : Int) < (r : Int)) = true := decide_eq_true (by omega)
      have HU2 : Hid (quoN P c true = q1) := by rw [Hid, HU.out, decide_eq_true hr]; rfl
      go_wp2
      go_ret
      exact ⟨by rw [HU2.out]; rfl, R2.out⟩
    · obtain rfl : r = 0 := by omega
      go_wp2
      go_ret
      exact ⟨by rw [HU.out]; rfl, R2.out⟩
end Go.Proofs.Ytfkckokaclkjnaa
