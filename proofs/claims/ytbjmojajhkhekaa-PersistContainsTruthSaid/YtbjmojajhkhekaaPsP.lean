/- The reference's drift and certified.Now at small numbers. -/
import Derived.Test.YtbjmojajhkhekaaPsW
import Derived.Laws.BitsLemmas
namespace Go.Proofs.Ytbjmojajhkhekaa
open Go.RowKit

theorem wrap62 (n : Int) (h0 : 0 ≤ n) (h1 : n < 2 ^ 62) : IntKind.i64.wrap n = n := IntWalk.i64_in _ (by omega)
theorem and31 (x : Int) (h0 : 0 ≤ x) (h1 : x < 4611686018427387904) : bits .and .i64 x 2147483647 = x % 2147483648 := bits_mask .i64 62 (by decide) wrap62 31 (by decide) x h0 h1
theorem or31 (x y : Int) (h0 : 0 ≤ x) (h1 : x < 4611686018427387904) (h2 : x % 2147483648 = 0) (h3 : 0 ≤ y) (h4 : y < 2147483648) : bits .or .i64 x y = x + y :=
  bits_join .i64 62 (by decide) wrap62 31 x y h0 h2 h1 h3 h4 (by omega)
set_option maxRecDepth 100000 in
set_option maxHeartbeats 4000000 in
theorem prod_any (a b : Int) (w : World) (a0 : 0 ≤ a) (a1 : a < 131072) (b0 : 0 ≤ b) (b1 : b < 2147483648) : Calls Try.prog 94 #[.int .i64 a, .int .i64 b] w fun e w' => e = .returned (.tuple #[.int .i64 0, .int .i64 (a * b)]) ∧ w = w' := by
  obtain ⟨c, hc⟩ : ∃ c, a * b = c := ⟨_, rfl⟩
  have c0 : 0 ≤ c := by rw [← hc]; exact Int.mul_nonneg a0 b0
  have c1 : c < 281474976710656 := by
    rw [← hc]
    calc a * b ≤ 131071 * b := Int.mul_le_mul_of_nonneg_right (by omega) b0
      _ < 281474976710656 := by omega
  have e1 : a / 2147483648 = 0 := by omega
  have e2 : b / 2147483648 = 0 := by omega
  have m1 : bits .and .i64 a 2147483647 = a := by rw [and31 a a0 (by omega)]; omega
  have m2 : bits .and .i64 b 2147483647 = b := by rw [and31 b b0 (by omega)]; omega
  obtain ⟨q, hq⟩ : ∃ q, c / 2147483648 = q := ⟨_, rfl⟩
  obtain ⟨r, hr⟩ : ∃ r, c % 2147483648 = r := ⟨_, rfl⟩
  have q0 : 0 ≤ q := by omega
  have q1 : q < 131072 := by omega
  have r0 : 0 ≤ r := by omega
  have r1 : r < 2147483648 := by omega
  have e3 : q / 2147483648 = 0 := by omega
  have m3 : bits .and .i64 q 2147483647 = q := by rw [and31 q q0 (by omega)]; omega
  have m4 : bits .and .i64 c 2147483647 = r := by rw [and31 c c0 (by omega)]; exact hr
  have w1 : IntKind.i64.wrap (a * b) = c := by rw [hc]; exact IntWalk.i64_in _ (by omega)
  have w2 : IntKind.i64.wrap (q * 2147483648) = q * 2147483648 := IntWalk.i64_in _ (by omega)
  have o1 : bits .or .i64 (q * 2147483648) r = c := by rw [or31 _ _ (by omega) (by omega) (by omega) r0 r1]; omega
  have HC := Lib.hid hc
  rw [hc]
  clear hc hr
  go_enter Try.func94, Try.ntmps94
  go_wp2
  go_returns
  exact ⟨rfl, rfl⟩
set_option maxRecDepth 100000 in
set_option maxHeartbeats 4000000 in
theorem atMost_yes (a b c d : Int) (w : World) (a0 : 0 ≤ a) (a1 : a < 131072) (b0 : 0 ≤ b) (b1 : b < 2147483648) (c0 : 0 ≤ c) (c1 : c < 131072) (d0 : 0 ≤ d) (d1 : d < 2147483648) (h : a * b ≤ c * d) : Calls Try.prog 80 #[.int .i64 a, .int .i64 b, .int .i64 c, .int .i64 d] w fun e w' => e = .returned (.bool true) ∧ w = w' := by
  obtain ⟨p, hp⟩ : ∃ p, a * b = p := ⟨_, rfl⟩
  obtain ⟨q, hq⟩ : ∃ q, c * d = q := ⟨_, rfl⟩
  rw [hp, hq] at h
  have HP := Lib.hid hp
  have HQ := Lib.hid hq
  clear hp hq
  go_enter Try.func80, Try.ntmps80
  go_wp2_with fail
  refine (prod_any a b _ a0 a1 b0 b1).mono ?_
  rintro e q_ ⟨rfl, rfl⟩
  rw [HP.out]
  go_wp2_with fail
  refine (prod_any c d _ c0 c1 d0 d1).mono ?_
  rintro e q_ ⟨rfl, rfl⟩
  rw [HQ.out]
  go_wp2
  go_returns
  exact ⟨rfl, rfl⟩
set_option maxRecDepth 100000 in
set_option maxHeartbeats 4000000 in
theorem fits_same (d pp : Int) (w : World) (d0 : 0 ≤ d) (d1 : d < 131072) (p0 : 0 ≤ pp) (p1 : pp ≤ 1000000) : Calls Try.prog 48 #[.int .i64 d, .int .i64 d, .int .i64 pp] w fun e w' => e = .returned (.bool true) ∧ w = w' := by
  have e1 : ¬ d < 0 := by omega
  have e2 : ¬ d > 1152921504606846976 := by omega
  have e3 : ¬ pp < 0 := by omega
  have e4 : ¬ pp > 1000000 := by omega
  obtain ⟨x, hx⟩ : ∃ x, 1000000000 - pp = x := ⟨_, rfl⟩
  obtain ⟨y, hy⟩ : ∃ y, 1000000000 + pp = y := ⟨_, rfl⟩
  have x0 : 0 ≤ x ∧ x ≤ 1000000000 := by omega
  have y0 : 1000000000 ≤ y ∧ y < 2147483648 := by omega
  have HX := Lib.hid (Int.mul_le_mul_of_nonneg_left x0.2 d0)
  have HY := Lib.hid (Int.mul_le_mul_of_nonneg_left y0.1 d0)
  have w1 : IntKind.i64.wrap (1000000000 - pp) = x := by rw [hx]; exact IntWalk.i64_in _ (by omega)
  have w2 : IntKind.i64.wrap (1000000000 + pp) = y := by rw [hy]; exact IntWalk.i64_in _ (by omega)
  go_enter Try.func48, Try.ntmps48
  go_wp2_with fail
  refine (atMost_yes d x d 1000000000 _ d0 d1 x0.1 (by omega) d0 d1 (by decide) (by decide) HX.out).mono ?_
  rintro e q_ ⟨rfl, rfl⟩
  go_wp2_with fail
  refine (atMost_yes d 1000000000 d y _ d0 d1 (by decide) (by decide) d0 d1 (by omega) y0.2 HY.out).mono ?_
  rintro e q_ ⟨rfl, rfl⟩
  go_wp2
  go_returns
  exact ⟨rfl, rfl⟩
set_option maxRecDepth 100000 in
set_option maxHeartbeats 4000000 in
theorem below_pos (a b : Int) (w : World) (a0 : 0 ≤ a) (a1 : a ≤ 9223372036854775807) (b0 : 0 < b) : Calls Try.prog 113 #[.int .i64 a, .int .i64 b] w fun e w' => e = .returned (.int .i64 (a / b)) ∧ w = w' := by
  have hb : ¬ b = 0 := by omega
  have q1 : Int.tdiv a b = a / b := Int.tdiv_eq_ediv_of_nonneg a0
  have r1 : Int.tmod a b = a % b := Int.tmod_eq_emod_of_nonneg a0
  have r0 : 0 ≤ a % b := Int.emod_nonneg a hb
  have q0 : 0 ≤ a / b := Int.ediv_nonneg a0 (by omega)
  have q2 : a / b ≤ a := Int.ediv_le_self b a0
  obtain ⟨q, hq⟩ : ∃ q, a / b = q := ⟨_, rfl⟩
  obtain ⟨r, hr⟩ : ∃ r, a % b = r := ⟨_, rfl⟩
  rw [hq] at q0 q1 q2
  rw [hr] at r0 r1
  have r2 : ¬ r < 0 := by omega
  have w1 : IntKind.i64.wrap q = q := IntWalk.i64_in _ (by omega)
  have w2 : IntKind.i64.wrap (Int.tdiv a b) = q := by rw [q1]; exact w1
  have w3 : IntKind.i64.wrap (a / b) = q := by rw [hq]; exact w1
  rw [hq]
  go_enter Try.func113, Try.ntmps113
  go_wp2
  go_returns
  exact ⟨rfl, rfl⟩
/-- a / b rounded up. -/
def rup (a b : Int) : Int := if a % b = 0 then a / b else a / b + 1
set_option maxRecDepth 100000 in
set_option maxHeartbeats 4000000 in
theorem rounded_down (a b : Int) (w : World) (a0 : 0 ≤ a) (a1 : a ≤ 9223372036854775807) (b0 : 0 < b) : Calls Try.prog 110 #[.int .i64 a, .int .i64 b, .bool false] w fun e w' => e = .returned (.int .i64 (a / b)) ∧ w = w' := by
  have B0 := Lib.hid (And.intro a0 (And.intro a1 b0))
  obtain ⟨q, hq⟩ : ∃ q, a / b = q := ⟨_, rfl⟩
  have HQ := Lib.hid hq
  rw [hq]
  clear hq a0 a1 b0
  go_enter Try.func110, Try.ntmps110
  go_wp2_with fail
  refine (below_pos a b _ B0.out.1 B0.out.2.1 B0.out.2.2).mono ?_
  rintro e q_ ⟨rfl, rfl⟩
  rw [HQ.out]
  go_wp2
  go_returns
  exact ⟨rfl, rfl⟩
set_option maxRecDepth 100000 in
set_option maxHeartbeats 4000000 in
theorem rounded_up0 (a b : Int) (w : World) (a0 : 0 ≤ a) (a1 : a ≤ 4611686018427387904) (b0 : 0 < b) (h : a % b = 0) : Calls Try.prog 110 #[.int .i64 a, .int .i64 b, .bool true] w fun e w' => e = .returned (.int .i64 (rup a b)) ∧ w = w' := by
  have hb : ¬ b = 0 := by omega
  have r1 : Int.tmod a b = a % b := Int.tmod_eq_emod_of_nonneg a0
  have q2 : a / b ≤ a := Int.ediv_le_self b a0
  have q0 : 0 ≤ a / b := Int.ediv_nonneg a0 (by omega)
  have B0 := Lib.hid (And.intro a0 (And.intro (show a ≤ 9223372036854775807 by omega) b0))
  obtain ⟨q, hq⟩ : ∃ q, a / b = q := ⟨_, rfl⟩
  have HQ := Lib.hid hq
  rw [hq] at q0 q2
  have e : rup a b = q := by unfold rup; rw [if_pos h, hq]
  rw [e]
  clear e hq
  have r2 : Int.tmod a b = 0 := by rw [r1, h]
  have h3 : a % b = 0 := h
  clear r1 h
  go_enter Try.func110, Try.ntmps110
  go_wp2_with fail
  refine (below_pos a b _ B0.out.1 B0.out.2.1 B0.out.2.2).mono ?_
  rintro e q_ ⟨rfl, rfl⟩
  rw [HQ.out]
  go_wp2
  go_returns
  exact ⟨rfl, rfl⟩
set_option maxRecDepth 100000 in
set_option maxHeartbeats 4000000 in
theorem rounded_up1 (a b : Int) (w : World) (a0 : 0 ≤ a) (a1 : a ≤ 4611686018427387904) (b0 : 0 < b) (h : ¬ a % b = 0) : Calls Try.prog 110 #[.int .i64 a, .int .i64 b, .bool true] w fun e w' => e = .returned (.int .i64 (rup a b)) ∧ w = w' := by
  have hb : ¬ b = 0 := by omega
  have r1 : Int.tmod a b = a % b := Int.tmod_eq_emod_of_nonneg a0
  have q2 : a / b ≤ a := Int.ediv_le_self b a0
  have q0 : 0 ≤ a / b := Int.ediv_nonneg a0 (by omega)
  have B0 := Lib.hid (And.intro a0 (And.intro (show a ≤ 9223372036854775807 by omega) b0))
  obtain ⟨q, hq⟩ : ∃ q, a / b = q := ⟨_, rfl⟩
  have HQ := Lib.hid hq
  rw [hq] at q0 q2
  have e : rup a b = q + 1 := by unfold rup; rw [if_neg h, hq]
  rw [e]
  clear e hq
  obtain ⟨r, hr⟩ : ∃ r, a % b = r := ⟨_, rfl⟩
  rw [hr] at r1 h
  have h2 : (r != 0) = true := by simpa using h
  clear h
  have w1 : IntKind.i64.wrap (q + 1) = q + 1 := IntWalk.i64_in _ (by omega)
  go_enter Try.func110, Try.ntmps110
  go_wp2_with fail
  refine (below_pos a b _ B0.out.1 B0.out.2.1 B0.out.2.2).mono ?_
  rintro e q_ ⟨rfl, rfl⟩
  rw [HQ.out]
  go_wp2
  go_returns
  exact ⟨rfl, rfl⟩
theorem rounded_up (a b : Int) (w : World) (a0 : 0 ≤ a) (a1 : a ≤ 4611686018427387904) (b0 : 0 < b) : Calls Try.prog 110 #[.int .i64 a, .int .i64 b, .bool true] w fun e w' => e = .returned (.int .i64 (rup a b)) ∧ w = w' := by
  by_cases h : a % b = 0
  · exact rounded_up0 a b w a0 a1 b0 h
  · exact rounded_up1 a b w a0 a1 b0 h
set_option maxRecDepth 100000 in
set_option maxHeartbeats 4000000 in
theorem ratio_down (d b c : Int) (w : World) (d0 : 0 ≤ d) (d3 : d ≤ 131071) (d1 : d < c) (b0 : 0 ≤ b) (m1 : d * b ≤ 4611686018427387904) : Calls Try.prog 105 #[.int .i64 d, .int .i64 b, .int .i64 c, .bool false] w fun e w' => e = .returned (.int .i64 (d * b / c)) ∧ w = w' := by
  have h1 : Int.tdiv d c = 0 := by rw [Int.tdiv_eq_ediv_of_nonneg d0]; exact Int.ediv_eq_zero_of_lt d0 d1
  have h2 : d / c = 0 := Int.ediv_eq_zero_of_lt d0 d1
  have hc : ¬ c = 0 := by omega
  obtain ⟨p, hp⟩ : ∃ p, d * b = p := ⟨_, rfl⟩
  rw [hp] at m1 ⊢
  have p0 : 0 ≤ p := by rw [← hp]; exact Int.mul_nonneg d0 b0
  have w1 : IntKind.i64.wrap (d * b) = p := by rw [hp]; exact IntWalk.i64_in _ (by omega)
  obtain ⟨v, hv⟩ : ∃ v, p / c = v := ⟨_, rfl⟩
  have HV := Lib.hid hv
  have v1 : 0 ≤ v ∧ v ≤ 4611686018427387904 := by
    have g1 : p / c ≤ p := Int.ediv_le_self c p0
    have g2 : 0 ≤ p / c := Int.ediv_nonneg p0 (by omega)
    omega
  have w1b : wrap64 (d * b) = p := by rw [hp]; exact IntWalk.wrap64_in _ ⟨by omega, by omega⟩
  have w2 : IntKind.i64.wrap v = v := IntWalk.i64_in _ (by omega)
  rw [hv]
  clear hv
  clear hp
  have P := Lib.hid (And.intro p0 (And.intro m1 (show 0 < c by omega)))
  clear p0 m1
  go_enter Try.func105, Try.ntmps105
  go_wp2_with fail
  refine (rounded_down p c _ P.out.1 (by have := P.out.2.1; omega) P.out.2.2).mono ?_
  rintro e q_ ⟨rfl, rfl⟩
  rw [HV.out]
  go_wp2
  go_returns
  exact ⟨rfl, rfl⟩
set_option maxRecDepth 100000 in
set_option maxHeartbeats 4000000 in
theorem ratio_up (d b c : Int) (w : World) (d0 : 0 ≤ d) (d3 : d ≤ 131071) (d1 : d < c) (b0 : 0 ≤ b) (m1 : d * b ≤ 4611686018427387904) : Calls Try.prog 105 #[.int .i64 d, .int .i64 b, .int .i64 c, .bool true] w fun e w' => e = .returned (.int .i64 (rup (d * b) c)) ∧ w = w' := by
  have h1 : Int.tdiv d c = 0 := by rw [Int.tdiv_eq_ediv_of_nonneg d0]; exact Int.ediv_eq_zero_of_lt d0 d1
  have h2 : d / c = 0 := Int.ediv_eq_zero_of_lt d0 d1
  have hc : ¬ c = 0 := by omega
  obtain ⟨p, hp⟩ : ∃ p, d * b = p := ⟨_, rfl⟩
  rw [hp] at m1 ⊢
  have p0 : 0 ≤ p := by rw [← hp]; exact Int.mul_nonneg d0 b0
  have w1 : IntKind.i64.wrap (d * b) = p := by rw [hp]; exact IntWalk.i64_in _ (by omega)
  obtain ⟨v, hv⟩ : ∃ v, rup (p) c = v := ⟨_, rfl⟩
  have HV := Lib.hid hv
  have v1 : 0 ≤ v ∧ v ≤ 4611686018427387905 := by
    have g1 : p / c ≤ p := Int.ediv_le_self c p0
    have g2 : 0 ≤ p / c := Int.ediv_nonneg p0 (by omega)
    unfold rup at hv
    split at hv <;> omega
  have w1b : wrap64 (d * b) = p := by rw [hp]; exact IntWalk.wrap64_in _ ⟨by omega, by omega⟩
  have w2 : IntKind.i64.wrap v = v := IntWalk.i64_in _ (by omega)
  rw [hv]
  clear hv
  clear hp
  have P := Lib.hid (And.intro p0 (And.intro m1 (show 0 < c by omega)))
  clear p0 m1
  go_enter Try.func105, Try.ntmps105
  go_wp2_with fail
  refine (rounded_up p c _ P.out.1 (by have := P.out.2.1; omega) P.out.2.2).mono ?_
  rintro e q_ ⟨rfl, rfl⟩
  rw [HV.out]
  go_wp2
  go_returns
  exact ⟨rfl, rfl⟩
set_option maxRecDepth 100000 in
set_option maxHeartbeats 4000000 in
theorem in_yes (d pp : Int) (w : World) (d0 : 0 ≤ d) (d1 : d < 131072) (p0 : 0 ≤ pp) (p1 : pp ≤ 1000000) : Calls Try.prog 104 #[.int .i64 d, .int .i64 pp] w fun e w' => e = .returned (.bool true) ∧ w = w' := by
  have e1 : d ≤ 576460752303423488 := by omega
  go_enter Try.func104, Try.ntmps104
  go_wp2
  go_returns
  exact ⟨rfl, rfl⟩
end Go.Proofs.Ytbjmojajhkhekaa
