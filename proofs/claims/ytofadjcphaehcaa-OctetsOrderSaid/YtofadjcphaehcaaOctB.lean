/- The walk of OctetsOrder. -/
import Derived.Test.YtofadjcphaehcaaOctA
namespace Go.Proofs.Ytofadjcphaehcaa
open Go.RowKit

theorem less_putL (v w : Nat) : ∀ k, Op.bytesLess (putL v k) (putL w k) = decide (v % 256 ^ k < w % 256 ^ k)
  | 0 => by simp [putL, Op.bytesLess, Nat.mod_one]
  | k + 1 => by
    rw [putL, putL, Op.bytesLess, less_putL v w k, Nat.pow_succ, Nat.mod_mul, Nat.mod_mul]
    obtain ⟨P, hP⟩ : ∃ P, (256 : Nat) ^ k = P := ⟨_, rfl⟩
    have hP0 : 0 < P := by rw [← hP]; exact Nat.pow_pos (by omega)
    rw [hP]
    have h1 : v % P < P := Nat.mod_lt _ hP0
    have h2 : w % P < P := Nat.mod_lt _ hP0
    obtain ⟨x, hx⟩ : ∃ x, v / P % 256 = x := ⟨_, rfl⟩
    obtain ⟨y, hy⟩ : ∃ y, w / P % 256 = y := ⟨_, rfl⟩
    have ea : (UInt8.ofNat (v / P) < UInt8.ofNat (w / P)) ↔ x < y := by
      rw [UInt8.lt_iff_toNat_lt, UInt8.toNat_ofNat', UInt8.toNat_ofNat', ← hx, ← hy]
    have eb : (UInt8.ofNat (v / P) == UInt8.ofNat (w / P)) = decide (x = y) := by
      rw [Bool.eq_iff_iff, beq_iff_eq, decide_eq_true_iff, ← UInt8.toNat_inj, UInt8.toNat_ofNat', UInt8.toNat_ofNat', ← hx, ← hy]
    rw [eb, hx, hy]
    generalize v % P = a at *
    generalize w % P = b at *
    rcases Nat.lt_trichotomy x y with h | h | h
    · have h3 : P * (x + 1) ≤ P * y := Nat.mul_le_mul (Nat.le_refl _) h
      rw [Nat.mul_add] at h3
      simp [ea, h]; omega
    · subst h
      simp [ea]
    · have h3 : P * (y + 1) ≤ P * x := Nat.mul_le_mul (Nat.le_refl _) h
      rw [Nat.mul_add] at h3
      have : ¬ x < y := by omega
      have : ¬ x = y := by omega
      simp [ea, *]; omega

theorem putL_eq (v w : Nat) (hv : v < 18446744073709551616) (hw : w < 18446744073709551616) : (putL v 8 = putL w 8) = (v = w) := by
  apply propext
  constructor
  · intro h
    have h1 := congrArg be h
    rw [be_putL, be_putL] at h1
    omega
  · rintro rfl; rfl
theorem putL_long (v k : Nat) (hv : v < 18446744073709551616) : putL v (8 + k) = List.replicate k 0 ++ putL v 8 :=
  putL_zeros v k 8 (by unfold shB; omega)
theorem long_zero (v k i : Nat) (hv : v < 18446744073709551616) (hi : i < k) : byteAt (putL v (8 + k)) i = 0 := by
  rw [putL_long v k hv]
  simp [byteAt, List.getD, List.getElem?_append_left, hi]

theorem same_cast (v x : Nat) : (decide (v = x) == ((v : Int) == (x : Int))) = true := by
  have h : ((v : Int) == (x : Int)) = decide (v = x) := by
    rw [Bool.eq_iff_iff, beq_iff_eq, decide_eq_true_iff]
    omega
  rw [h]
  exact beq_self_eq_true _
set_option maxRecDepth 100000 in
set_option maxHeartbeats 2000000 in
theorem order_walk (v x : Nat) (hv : v < 18446744073709551616) (hx : x < 18446744073709551616) (a2 : Int) (w : World) :
    Calls Try.prog 4 #[.int .u64 v, .int .u64 x, .int .i64 a2] w fun e w' => e = .returned (.bool true) ∧ Below w.heap.size w w' := by
  obtain ⟨r, hr⟩ : ∃ r, a2.tmod 57 = r := ⟨_, rfl⟩
  have hr1 : -57 < r ∧ r < 57 := by
    have := Int.tmod_eq_emod (a := a2) (b := 57)
    split at this <;> omega
  obtain ⟨k, hk⟩ : ∃ k : Nat, (r + 57).tmod 57 = k := by
    rw [Int.tmod_eq_emod_of_nonneg (by omega)]
    exact Int.eq_ofNat_of_zero_le (by omega)
  have hk57 : k < 57 := by
    rw [Int.tmod_eq_emod_of_nonneg (by omega)] at hk
    omega
  obtain ⟨N, hN⟩ : ∃ N : Nat, 8 + (k : Int) = N := ⟨8 + k, by omega⟩
  have hN2 : N = 8 + k := by omega
  have hz : ∀ i, i < k → byteAt (putL v N) i = 0 := fun i hi => by rw [hN2]; exact long_zero v k i hv hi
  have hl : (putL v N).drop (N - 8) = putL v 8 := by rw [hN2, putL_long v k hv]; simp
  have hl1 : Op.bytesLess (strOf (putL v 8)).toList (strOf (putL x 8)).toList = decide (v < x) := by
    rw [strOf_toList, strOf_toList, less_putL, Nat.mod_eq_of_lt (by omega), Nat.mod_eq_of_lt (by omega)]
  have hl2 : decide (putL v 8 = putL x 8) = decide (v = x) := by simp only [putL_eq v x hv hx]
  have HZ := Lib.hid hz
  have HL := Lib.hid hl
  have HL1 := Lib.hid hl1
  have HL2 := Lib.hid hl2
  have HN2 := Lib.hid hN2
  clear hz hl hl1 hl2 hv hx hN2
  have c1 := Lib.hid (fun W => put_reads v 8 (by omega) W)
  have c2 := Lib.hid (fun W => put_reads x 8 (by omega) W)
  have c3 := Lib.hid (fun W => put_reads v N (by rw [HN2.out]; omega) W)
  go_enter Try.func4, Try.ntmps4
  go_wp2_with fail
  refine (c1.out _).mono ?_
  rintro e w1 ⟨A1, n1, rfl, hv1, hb1⟩
  have hs1 := hb1.size
  go_wp2_with fail
  refine (c2.out _).mono ?_
  rintro e w2 ⟨A2, n2, rfl, hv2, hb2⟩
  have hv1 := hv1.stays hb2
  have hB2 := hb1.trans (hb2.mono hs1)
  have hs2 := hB2.size
  go_wp2_with fail
  refine (c3.out _).mono ?_
  rintro e w3 ⟨A3, n3, rfl, hv3, hb3⟩
  have HV1 := Lib.hid (hv1.stays hb3)
  have HV2 := Lib.hid (hv2.stays hb3)
  have hB3 := hB2.trans (hb3.mono hs2)
  have hs3 := hB3.size
  have hN8 : 8 ≤ N := by rw [HN2.out]; omega
  have hle3 := hv3.le
  have hcap3 := hv3.cap
  have HV3 := Lib.hid hv3
  clear hv1 hv2 hv3 hb1 hb2 hb3 c1 c2 c3
  go_wp2_with fail
  go_loop [10] (fun i => ∃ j : Nat, j ≤ k ∧ i = .int .i64 j) (fun i => k - (intOf i).toNat)
  case atStart => exact ⟨0, by omega, rfl⟩
  case round =>
    obtain ⟨j, hj, rfl⟩ := hrel
    have hkN : (N : Int) - 8 = k := by omega
    by_cases hjk : j < k
    · obtain ⟨b, off, rfl, hc⟩ := HV3.out.at_ (show j < N by omega)
      rw [HZ.out j hjk] at hc
      go_wp2_with fail
      go_round
      case rel => exact ⟨j + 1, by omega, by go_num⟩
      case measure => simp [intOf]; omega
    · obtain rfl : j = k := by omega
      go_wp2_with fail
      refine (octKnown _).mono ?_
      rintro e w4 ⟨rfl, hb4⟩
      have hv1 := HV1.out.stays hb4
      have hv2 := HV2.out.stays hb4
      have hv3 := HV3.out.stays hb4
      have hB4 := hB3.trans (hb4.mono hs3)
      have e1 := conv_str (P := Try.prog) hv1 23 9 5 Try.underlying23 Try.underlying5 Try.underlying9
      have e2 := conv_str (P := Try.prog) hv2 23 9 5 Try.underlying23 Try.underlying5 Try.underlying9
      have hn8 : N - j = 8 := by have := HN2.out; omega
      have hcut := hv3.cut j N (by omega) (Nat.le_refl _)
      rw [hn8, if_neg (show ¬ n3 = j by omega)] at hcut
      have hll : ((putL v N).drop j).take 8 = putL v 8 := by
        have h9 := HL.out
        rw [show N - 8 = j by have := HN2.out; omega] at h9
        rw [h9, List.take_of_length_le (by rw [putL_length]; exact Nat.le_refl _)]
      rw [hll] at hcut
      have CS := Lib.hid (octSame_any _ _ _ _ _ _ _ _ _ hcut hv1)
      have CT := Lib.hid (octSame_any _ _ _ _ _ _ _ _ _ hv1 hv2)
      rw [decide_eq_true rfl] at CS
      rw [HL2.out] at CT
      have hl1 := HL1.out
      clear hb4 hll hcut hv1 hv2 hv3
      go_wp2_with fail
      refine CS.out.mono ?_
      rintro e w5 ⟨rfl, rfl⟩
      go_wp2_with fail
      refine CT.out.mono ?_
      rintro e w6 ⟨rfl, rfl⟩
      go_wp2_with fail
      rw [same_cast v x]
      go_ret
      exact ⟨rfl, hB4⟩

theorem order_walk' (a0 : Int) (w0 : (Lit.int .u64 a0).wf = true) (a1 : Int) (w1 : (Lit.int .u64 a1).wf = true) (a2 : Int) (w : World) :
    Calls Try.prog 4 #[.int .u64 a0, .int .u64 a1, .int .i64 a2] w fun e w' => e = .returned (.bool true) ∧ Below w.heap.size w w' := by
  have hb0 := bounds_u64 w0
  have hb1 := bounds_u64 w1
  obtain ⟨v, rfl⟩ := Int.eq_ofNat_of_zero_le hb0.1
  obtain ⟨x, rfl⟩ := Int.eq_ofNat_of_zero_le hb1.1
  exact order_walk v x (by omega) (by omega) a2 w
end Go.Proofs.Ytofadjcphaehcaa
