/- math/bits.Div64 at a divisor of 30 bits. -/
import Derived.Test.YtfkckokaclkjnaaMulD
namespace Go.Proofs.Ytfkckokaclkjnaa
open Go Go.RowKit

theorem mod3 (u v m n : Int) (h : u * 4294967296 + v - m = n) (h0 : 0 ≤ n) (h1 : n < 18446744073709551616) : IntKind.u64.wrap (IntKind.u64.wrap (IntKind.u64.wrap (u * 4294967296) + v) - IntKind.u64.wrap m) = n := by
  simp only [IntKind.wrap_u64]
  rw [Int.emod_add_emod, ← Int.sub_emod, h]
  exact Int.emod_eq_of_lt h0 h1
theorem mod1 (u m n : Int) (h : u - m = n) (h0 : 0 ≤ n) (h1 : n < 18446744073709551616) : IntKind.u64.wrap (u - IntKind.u64.wrap m) = n := by
  simp only [IntKind.wrap_u64]
  rw [Int.sub_emod, Int.emod_emod, ← Int.sub_emod, h]
  exact Int.emod_eq_of_lt h0 h1
theorem mod2 (u m n : Int) (h : u * 4294967296 - m = n) (h0 : 0 ≤ n) (h1 : n < 18446744073709551616) : IntKind.u64.wrap (IntKind.u64.wrap (IntKind.u64.wrap (u * 4294967296)) - IntKind.u64.wrap m) = n := by
  simp only [IntKind.wrap_u64]
  rw [Int.emod_emod, ← Int.sub_emod, h]
  exact Int.emod_eq_of_lt h0 h1
theorem mod0 (u v n : Int) (h : u * 4294967296 + v = n) (h0 : 0 ≤ n) (h1 : n < 18446744073709551616) : IntKind.u64.wrap (IntKind.u64.wrap (u * 4294967296) + v) = n := by
  simp only [IntKind.wrap_u64]
  rw [Int.emod_add_emod, h]
  exact Int.emod_eq_of_lt h0 h1
theorem modn (n : Int) (h0 : 0 ≤ n) (h1 : n < 18446744073709551616) : IntKind.u64.wrap n = n := by
  simp only [IntKind.wrap_u64]
  exact Int.emod_eq_of_lt h0 h1
theorem or_word (a b : Nat) (ha : a * 17179869184 < 18446744073709551616) (hb : b < 17179869184) : bits .or .u64 ((a : Int) * 17179869184) (b : Int) = ((a * 17179869184 + b : Nat) : Int) := by
  have e : (a : Int) * 17179869184 = ((a * 17179869184 : Nat) : Int) := by omega
  rw [e]
  have h := bits_or_u64_nat (a * 17179869184) b ha (by omega)
  rw [h]
  congr 1
  have h2 := Nat.shiftLeft_add_eq_or_of_lt (a := a) (b := b) (i := 34) (by omega)
  rw [Nat.shiftLeft_eq] at h2
  exact h2.symm
structure DivW (hi lo y Y D U V V1 Q1 R1 M1 M2 S1 T1 N2 Q0 R0 M3 M4 S0 : Nat) : Prop where
  a1 : (y : Int) * 17179869184 = (Y : Int)
  a2 : (Y : Int) / 4294967296 = (D : Int)
  a3 : bits .and .u64 (Y : Int) 4294967295 = 0
  a4 : bits .or .u64 ((hi : Int) * 17179869184) ((lo : Int) / 1073741824) = (U : Int)
  a5 : IntKind.u64.wrap ((lo : Int) * 17179869184) = (V : Int)
  a6 : (V : Int) / 4294967296 = (V1 : Int)
  a7 : bits .and .u64 (V : Int) 4294967295 = 0
  a8 : IntKind.u64.wrap ((U : Int) / (D : Int)) = (Q1 : Int)
  a9 : (Q1 : Int) * (D : Int) = (M1 : Int)
  a10 : IntKind.u64.wrap ((U : Int) - IntKind.u64.wrap (M1 : Int)) = (R1 : Int)
  a11 : ¬ (Q1 : Int) ≥ 4294967296
  a12 : IntKind.u64.wrap (4294967296 * (R1 : Int)) = (S1 : Int)
  a13 : IntKind.u64.wrap ((S1 : Int) + (V1 : Int)) = (T1 : Int)
  a14 : (Q1 : Int) * (Y : Int) = (M2 : Int)
  a15 : IntKind.u64.wrap (IntKind.u64.wrap (IntKind.u64.wrap ((U : Int) * 4294967296) + (V1 : Int)) - IntKind.u64.wrap (M2 : Int)) = (N2 : Int)
  a16 : IntKind.u64.wrap ((N2 : Int) / (D : Int)) = (Q0 : Int)
  a17 : (Q0 : Int) * (D : Int) = (M3 : Int)
  a18 : IntKind.u64.wrap ((N2 : Int) - IntKind.u64.wrap (M3 : Int)) = (R0 : Int)
  a19 : ¬ (Q0 : Int) ≥ 4294967296
  a20 : IntKind.u64.wrap (4294967296 * (R0 : Int)) = (S0 : Int)
  a21 : (Q0 : Int) * (Y : Int) = (M4 : Int)
  a22 : IntKind.u64.wrap (IntKind.u64.wrap ((Q1 : Int) * 4294967296) + (Q0 : Int)) = (((hi * 18446744073709551616 + lo) / y : Nat) : Int)
  a23 : IntKind.u64.wrap (IntKind.u64.wrap (IntKind.u64.wrap ((N2 : Int) * 4294967296)) - IntKind.u64.wrap (M4 : Int)) / 17179869184 = (((hi * 18446744073709551616 + lo) % y : Nat) : Int)
  a24 : ¬ (D : Int) = 0
  a25 : IntKind.u64.wrap (S0 : Int) = (S0 : Int)
set_option maxHeartbeats 4000000 in
theorem div_plain (hi lo y : Nat) (hlo : lo < 18446744073709551616) (h1 : 536870912 ≤ y) (h2 : y < 1073741824) (hh : hi < y) : ∃ Y D U V V1 Q1 R1 M1 M2 S1 T1 N2 Q0 R0 M3 M4 S0 : Nat, DivW hi lo y Y D U V V1 Q1 R1 M1 M2 S1 T1 N2 Q0 R0 M3 M4 S0 := by
  obtain ⟨D, hD⟩ : ∃ D, D = 4 * y := ⟨_, rfl⟩
  obtain ⟨U, hU⟩ : ∃ U, U = hi * 17179869184 + lo / 1073741824 := ⟨_, rfl⟩
  obtain ⟨V1, hV1⟩ : ∃ V1, V1 = lo % 1073741824 * 4 := ⟨_, rfl⟩
  have hD0 : 0 < D := by omega
  have hUl : U < D * 4294967296 := by omega
  obtain ⟨Q1, hQ1⟩ : ∃ Q1, Q1 = U / D := ⟨_, rfl⟩
  obtain ⟨R1, hR1⟩ : ∃ R1, R1 = U % D := ⟨_, rfl⟩
  have hR1l : R1 < D := by rw [hR1]; exact Nat.mod_lt _ hD0
  have hQ1l : Q1 < 4294967296 := by rw [hQ1]; exact (Nat.div_lt_iff_lt_mul hD0).2 (by omega)
  obtain ⟨M1, hM1⟩ : ∃ M1, M1 = Q1 * D := ⟨_, rfl⟩
  have hUM : U = M1 + R1 := by have := Nat.div_add_mod U D; rw [hM1, hQ1, hR1, Nat.mul_comm]; exact this.symm
  obtain ⟨N2, hN2⟩ : ∃ N2, N2 = R1 * 4294967296 + V1 := ⟨_, rfl⟩
  have hN2l : N2 < D * 4294967296 := by omega
  obtain ⟨Q0, hQ0⟩ : ∃ Q0, Q0 = N2 / D := ⟨_, rfl⟩
  obtain ⟨R0, hR0⟩ : ∃ R0, R0 = N2 % D := ⟨_, rfl⟩
  have hR0l : R0 < D := by rw [hR0]; exact Nat.mod_lt _ hD0
  have hQ0l : Q0 < 4294967296 := by rw [hQ0]; exact (Nat.div_lt_iff_lt_mul hD0).2 (by omega)
  obtain ⟨M3, hM3⟩ : ∃ M3, M3 = Q0 * D := ⟨_, rfl⟩
  have hNM : N2 = M3 + R0 := by have := Nat.div_add_mod N2 D; rw [hM3, hQ0, hR0, Nat.mul_comm]; exact this.symm
  obtain ⟨P, hP⟩ : ∃ P, P = hi * 18446744073709551616 + lo := ⟨_, rfl⟩
  obtain ⟨K, hK⟩ : ∃ K, K = y * (Q1 * 4294967296 + Q0) := ⟨_, rfl⟩
  have hK4 : 4 * K = M1 * 4294967296 + M3 := by
    have e1 : Q1 * (4 * y) = 4 * (y * Q1) := by rw [Nat.mul_left_comm, Nat.mul_comm Q1]
    have e2 : Q0 * (4 * y) = 4 * (y * Q0) := by rw [Nat.mul_left_comm, Nat.mul_comm Q0]
    rw [hK, hM1, hM3, hD, e1, e2, Nat.mul_add, ← Nat.mul_assoc y]
    omega
  have hPK : P = K + R0 / 4 ∧ R0 / 4 < y ∧ R0 % 4 = 0 := by omega
  have hdm := (Nat.div_mod_unique (a := P) (b := y) (c := R0 / 4) (d := Q1 * 4294967296 + Q0) (by omega)).2 ⟨by rw [← hK]; omega, hPK.2.1⟩
  have hM2 : (Q1 : Int) * ((y * 17179869184 : Nat) : Int) = ((M1 * 4294967296 : Nat) : Int) := by
    have e1 : Q1 * (4 * y) = 4 * (y * Q1) := by rw [Nat.mul_left_comm, Nat.mul_comm Q1]
    rw [← Int.natCast_mul, hM1, hD, e1, ← Nat.mul_assoc, Nat.mul_comm Q1 y]
    exact congrArg Nat.cast (by omega)
  have hM4 : (Q0 : Int) * ((y * 17179869184 : Nat) : Int) = ((M3 * 4294967296 : Nat) : Int) := by
    have e1 : Q0 * (4 * y) = 4 * (y * Q0) := by rw [Nat.mul_left_comm, Nat.mul_comm Q0]
    rw [← Int.natCast_mul, hM3, hD, e1, ← Nat.mul_assoc, Nat.mul_comm Q0 y]
    exact congrArg Nat.cast (by omega)
  clear hK
  have hor := or_word hi (lo / 1073741824) (by omega) (by omega)
  refine ⟨y * 17179869184, D, U, lo % 1073741824 * 17179869184, V1, Q1, R1, M1, M1 * 4294967296, R1 * 4294967296, R1 * 4294967296 + V1, N2, Q0, R0, M3, M3 * 4294967296, R0 * 4294967296, ?_⟩
  constructor
  · omega
  · omega
  · rw [Mul64.maskN _ (by omega)]; omega
  · rw [hU, ← hor]; rfl
  · rw [IntKind.wrap_u64]; clear hor hM2 hM4 hdm hPK hK4; omega
  · omega
  · rw [Mul64.maskN _ (by omega)]; omega
  · rw [← Int.natCast_ediv, ← hQ1]; exact modn _ (by omega) (by omega)
  · rw [hM1, Int.natCast_mul]
  · exact mod1 _ _ _ (by omega) (by omega) (by omega)
  · omega
  · rw [modn _ (by omega) (by omega)]; omega
  · rw [modn _ (by omega) (by omega)]; omega
  · exact hM2
  · exact mod3 _ _ _ _ (by omega) (by omega) (by omega)
  · rw [← Int.natCast_ediv, ← hQ0]; exact modn _ (by omega) (by omega)
  · rw [hM3, Int.natCast_mul]
  · exact mod1 _ _ _ (by omega) (by omega) (by omega)
  · omega
  · rw [modn _ (by omega) (by omega)]; omega
  · exact hM4
  · rw [← hP, hdm.1]; exact mod0 _ _ _ (by omega) (by omega) (by omega)
  · rw [← hP, hdm.2, mod2 _ _ ((R0 * 4294967296 : Nat) : Int) (by omega) (by omega) (by omega)]; omega
  · omega
  · exact modn _ (by omega) (by omega)
end Go.Proofs.Ytfkckokaclkjnaa
