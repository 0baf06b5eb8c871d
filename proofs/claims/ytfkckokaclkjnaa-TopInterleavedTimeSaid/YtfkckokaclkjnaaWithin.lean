/- sectimecase.Within -/
import Derived.Test.YtfkckokaclkjnaaBase
namespace Go.Proofs.Ytfkckokaclkjnaa
open Go.RowKit

theorem tmod_within (v n : Int) (hn : 1 ≤ n) : (v.tmod n < 0 → v.tmod n + n = v % n) ∧ (0 ≤ v.tmod n → v.tmod n = v % n) := by
  have h1 := Int.tmod_eq_emod (a := v) (b := n)
  have h3 := Int.emod_nonneg v (show n ≠ 0 by omega)
  have h4 := Int.emod_lt_of_pos v (show 0 < n by omega)
  rw [h1]
  split <;> constructor <;> intro h <;> omega

set_option maxHeartbeats 400000 in
theorem within_any (v n : Int) (hn : 1 ≤ n) (h2 : n ≤ 9223372036854775807) (w : World) :
    Calls Try.prog 14 #[.int .i64 v, .int .i64 n] w fun e w' => e = .returned (.int .i64 (v % n)) ∧ w = w' := by
  have ⟨a, b⟩ := tmod_within v n hn
  have h3 := Int.emod_nonneg v (show n ≠ 0 by omega)
  have h4 := Int.emod_lt_of_pos v (show 0 < n by omega)
  have A := Lib.hid a
  have B := Lib.hid b
  clear a b
  by_cases hneg : v.tmod n < 0
  · have e1 := A.out hneg
    have E : Hid (wrap64 (v.tmod n + n) = v % n) := by unfold Hid wrap64; omega
    clear e1
    go_enter Try.func14, Try.ntmps14
    go_wp2
    go_ret
    exact ⟨by simp [E.out], rfl⟩
  · have E : Hid (v.tmod n = v % n) := B.out (by omega)
    go_enter Try.func14, Try.ntmps14
    go_wp2
    go_ret
    exact ⟨by simp [E.out], rfl⟩

end Go.Proofs.Ytfkckokaclkjnaa
