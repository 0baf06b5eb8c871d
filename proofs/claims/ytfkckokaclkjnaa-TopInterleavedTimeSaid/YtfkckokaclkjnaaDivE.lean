/- math/bits.Div64 at a divisor of 30 bits. -/
import Derived.Test.YtfkckokaclkjnaaDivD
import Derived.Deep.DeepCutAuto
namespace Go.Proofs.Ytfkckokaclkjnaa
open Go Go.RowKit

set_option maxRecDepth 100000 in
set_option maxHeartbeats 4000000 in
theorem div64_0 (lo y : Nat) (w : World) (hlo : lo < 18446744073709551616) (h1 : 536870912 ≤ y) (h2 : y < 1073741824) : Calls Try.prog 37 #[.int .u64 0, .int .u64 lo, .int .u64 y] w fun e w' => e = .returned (.tuple #[.int .u64 ((lo / y : Nat) : Int), .int .u64 ((lo % y : Nat) : Int)]) ∧ Below w.heap.size w w' := by
  have g1 : ¬ (y : Int) = 0 := by omega
  have g2 : ((y : Int) == 0) = false := by simpa using g1
  have g3 : ¬ (y : Int) ≤ 0 := by omega
  have e1 : IntKind.u64.wrap ((lo : Int) / (y : Int)) = ((lo / y : Nat) : Int) := by
    rw [← Int.natCast_ediv]
    exact Mul64.wrapN _ (Nat.lt_of_le_of_lt (Nat.div_le_self _ _) hlo)
  have e2 : Int.tmod (lo : Int) (y : Int) = ((lo % y : Nat) : Int) := by
    rw [Int.tmod_eq_emod_of_nonneg (by omega), ← Int.natCast_emod]
  have E1 := Lib.hid e1
  have E2 := Lib.hid e2
  clear e1 e2
  go_enter Try.func37, Try.ntmps37
  go_wp2
  refine region_still (by kernel_rfl) (by kernel_rfl) ?_
  repeat ((with_reducible refine wpStill_step (fun K hK => ?_)); go_simp; (with_reducible refine hK _ ?_); clear hK K)
  refine wpStill_nil ?_
  go_wp2
  go_returns
  refine ⟨?_, (Below.refl _ _).drew⟩
  simp only [E1.out, E2.out]
  rfl
set_option maxRecDepth 100000 in
set_option maxHeartbeats 4000000 in
theorem div64_hi (hi lo y : Nat) (w : World) (hlo : lo < 18446744073709551616) (h1 : 536870912 ≤ y) (h2 : y < 1073741824) (hh : hi < y) (h0 : 0 < hi) : Calls Try.prog 37 #[.int .u64 hi, .int .u64 lo, .int .u64 y] w fun e w' => e = .returned (.tuple #[.int .u64 (((hi * 18446744073709551616 + lo) / y : Nat) : Int), .int .u64 (((hi * 18446744073709551616 + lo) % y : Nat) : Int)]) ∧ Below w.heap.size w w' := by
  have g1 : ¬ (y : Int) = 0 := by omega
  have g2 : ((y : Int) == 0) = false := by simpa using g1
  have g3 : ¬ (y : Int) ≤ (hi : Int) := by omega
  have g4 : ((hi : Int) == 0) = false := by simp; omega
  obtain ⟨Y, D, U, V, V1, Q1, R1, M1, M2, S1, T1, N2, Q0, R0, M3, M4, S0, H⟩ := div_plain hi lo y hlo h1 h2 hh
  obtain ⟨a1, a2, a3, a4, a5, a6, a7, a8, a9, a10, a11, a12, a13, a14, a15, a16, a17, a18, a19, a20, a21, a22, a23, a24, a25⟩ := H
  obtain ⟨q, hq⟩ : ∃ q, (hi * 18446744073709551616 + lo) / y = q := ⟨_, rfl⟩
  obtain ⟨r, hr⟩ : ∃ r, (hi * 18446744073709551616 + lo) % y = r := ⟨_, rfl⟩
  rw [hq] at a22 ⊢
  rw [hr] at a23 ⊢
  have A22 := Lib.hid a22
  have A23 := Lib.hid a23
  clear a22 a23 hq hr
  go_enter Try.func37, Try.ntmps37
  go_wp2_with fail
  refine (lead34 y _ h1 h2).mono ?_
  rintro e q_ ⟨rfl, rfl⟩
  have d1 : decide ((4294967296 : Int) ≤ (Q1 : Int)) = false := decide_eq_false (by omega)
  have d2 : decide ((T1 : Int) < 0) = false := decide_eq_false (by omega)
  have d3 : decide ((4294967296 : Int) ≤ (Q0 : Int)) = false := decide_eq_false (by omega)
  have d4 : decide ((S0 : Int) < 0) = false := decide_eq_false (by omega)
  clear a11 a19
  go_wp2
  go_loopw [15, 16] (fun a b wr => a = .int .u64 (Q1 : Int) ∧ b = .int .u64 (R1 : Int) ∧ Below w.heap.size w wr) (fun _ _ _ => 0)
  case atStart => exact ⟨rfl, rfl, Below.refl _ _⟩
  case round =>
    obtain ⟨rfl, rfl, hbr⟩ := hrel
    have RW := Lib.hid hbr
    clear hbr
    go_wp2
    go_loopw [18, 16] (fun a b wr2 => a = .int .u64 (Q0 : Int) ∧ b = .int .u64 (R0 : Int) ∧ Below w.heap.size w wr2) (fun _ _ _ => 0)
    case atStart => exact ⟨rfl, rfl, RW.out⟩
    case round =>
      obtain ⟨rfl, rfl, hbr⟩ := hrel
      have RW2 := Lib.hid hbr
      clear hbr
      go_wp2
      go_returns
      refine ⟨?_, RW2.out⟩
      simp only [A22.out, A23.out]
      rfl
end Go.Proofs.Ytfkckokaclkjnaa
