/- cmp.Compare[uint64]. -/
import Derived.Test.YtofadjcphaehcaaQuot
namespace Go.Proofs.Ytofadjcphaehcaa
open Go Go.RowKit

theorem notNaN (x : Nat) (w : World) : Calls Try.prog 110 #[.int .u64 x] w fun e w' => e = .returned (.bool false) ∧ w = w' := by
  go_enter Try.func110, Try.ntmps110
  go_wp2
  go_ret
  exact ⟨by simp, rfl⟩
def cmpI (x y : Nat) : Int := if x < y then -1 else if y < x then 1 else 0
set_option maxHeartbeats 4000000 in
theorem cmpU_any (x y : Nat) (w : World) : Calls Try.prog 99 #[.int .u64 x, .int .u64 y] w fun e w' => e = .returned (.int .i64 (cmpI x y)) ∧ w = w' := by
  by_cases h1 : x < y
  · have d1 : decide ((x : Int) < (y : Int)) = true := decide_eq_true (by omega)
    have HC : Hid (cmpI x y = -1) := by rw [Hid, cmpI, if_pos h1]
    go_enter Try.func99, Try.ntmps99
    go_wp2_with fail
    refine (notNaN x _).mono ?_
    rintro e q_ ⟨rfl, rfl⟩
    go_wp2_with fail
    refine (notNaN y _).mono ?_
    rintro e q_ ⟨rfl, rfl⟩
    go_wp2
    go_ret
    exact ⟨by rw [HC.out]; rfl, rfl⟩
  · have d1 : decide ((x : Int) < (y : Int)) = false := decide_eq_false (by omega)
    by_cases h2 : y < x
    · have d2 : decide ((y : Int) < (x : Int)) = true := decide_eq_true (by omega)
      have HC : Hid (cmpI x y = 1) := by rw [Hid, cmpI, if_neg h1, if_pos h2]
      go_enter Try.func99, Try.ntmps99
      go_wp2_with fail
      refine (notNaN x _).mono ?_
      rintro e q_ ⟨rfl, rfl⟩
      go_wp2_with fail
      refine (notNaN y _).mono ?_
      rintro e q_ ⟨rfl, rfl⟩
      go_wp2
      go_ret
      exact ⟨by rw [HC.out]; rfl, rfl⟩
    · have d2 : decide ((y : Int) < (x : Int)) = false := decide_eq_false (by omega)
      have HC : Hid (cmpI x y = 0) := by rw [Hid, cmpI, if_neg h1, if_neg h2]
      go_enter Try.func99, Try.ntmps99
      go_wp2_with fail
      refine (notNaN x _).mono ?_
      rintro e q_ ⟨rfl, rfl⟩
      go_wp2_with fail
      refine (notNaN y _).mono ?_
      rintro e q_ ⟨rfl, rfl⟩
      go_wp2
      go_ret
      exact ⟨by rw [HC.out]; rfl, rfl⟩
end Go.Proofs.Ytofadjcphaehcaa
