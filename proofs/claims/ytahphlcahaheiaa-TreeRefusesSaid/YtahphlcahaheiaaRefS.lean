/- sectimeref02: Sum, Short, Chain. -/
import Derived.Test.YtahphlcahaheiaaRefSum
namespace Go.Proofs.Ytahphlcahaheiaa
open Go.RowKit

set_option maxRecDepth 100000 in
set_option maxHeartbeats 4000000 in
theorem refSum_any (l : List UInt8) (Ab : Option Addr) (n cb : Nat) (w : World) (hb : Bytes w Ab n cb l) :
    Calls Try.prog 41 #[.slice Ab n cb] w fun e w' => ∃ A' c', e = .returned (.slice A' 32 c') ∧ w'.ownsRow w.heap.size 5 1 (.slice A' 32 c') 32 ((sumL l).map byteV) ∧ Below w.heap.size w w' := by
  have cb1 := hb.le
  have cb2 := hb.cap
  have HL := Lib.hid hb.len
  have HB := Lib.hid hb
  clear hb
  go_enter Try.func41, Try.ntmps41
  go_wp2_with fail
  refine (refFirst_any _).mono ?_
  rintro e w1 ⟨Ah, rfl, hh, hb1⟩
  have HH := Lib.hid hh
  have hB1 := hb1.size
  have R1 := Lib.hid hb1
  clear hh hb1
  go_wp2_with fail
  refine (refConst_any _).mono ?_
  rintro e w2 ⟨Ak, rfl, hk, hb2⟩
  have HK := Lib.hid hk
  have HH := Lib.hid (HH.out.stays hb2)
  have R2 := R1.out.trans (hb2.mono hB1)
  have HB := Lib.hid (HB.out.stays R2)
  have hB2 := R2.size
  clear hk hb2 R1 hB1
  go_wp2
  obtain ⟨K, hK⟩ : ∃ K, n / 64 = K := ⟨_, rfl⟩
  obtain ⟨N, hN⟩ : ∃ N, 64 * K = N := ⟨_, rfl⟩
  rw [show (n : Int) / 64 * 64 = (N : Int) by omega]
  go_loopw [3, 6] (fun h i wz => ∃ (j cc : Nat) (AA : Option Addr), j ≤ K ∧ h = .slice AA 8 cc ∧ i = .int .i64 (64 * (j : Int)) ∧ Hid (Words wz AA 8 cc (stL (blocksL firstS l j))) ∧ Below w2.heap.size w2 wz) (fun _ i _ => 64 * K - (intOf i).toNat)
  case atStart => exact ⟨0, 8, Ah, by omega, rfl, rfl, HH, by go_grown⟩
  case round =>
    clear HH
    obtain ⟨j, cc, AA, hj, rfl, rfl, HW, hbz⟩ := hrel
    by_cases hjK : j < K
    · have q1 : (64 : Int) * (j : Int) < (N : Int) := by omega
      have hcut := (HB.out.stays hbz).cut (64 * j) (64 * j + 64) (by omega) (by omega)
      rw [show 64 * j + 64 - 64 * j = 64 by omega] at hcut
      rw [if_neg (by omega)] at hcut
      have HC := Lib.hid hcut
      clear hcut
      go_wp2_with fail
      refine (refBlock_any _ _ _ _ _ _ _ _ _ HW.out (HK.out.stays hbz) HC.out).mono ?_
      rintro e w6 ⟨A6, rfl, hv6, hb6⟩
      have HV6 := Lib.hid hv6
      have hB6 := hbz.trans (hb6.mono hbz.size)
      clear hv6 hb6 HC HW
      go_wp2
      go_roundw
      case rel => exact ⟨j + 1, 8, A6, by omega, rfl, by go_num, HV6, hB6⟩
      case measure => simp [intOf]; omega
    · have q1 : ¬ (64 : Int) * (j : Int) < (N : Int) := by omega
      obtain rfl : j = K := by omega
      have hBz := hbz.size
      have RZ := R2.trans (hbz.mono hB2)
      have HBz := Lib.hid (HB.out.stays hbz)
      have hcut := HBz.out.cut N n (by omega) (by omega)
      rw [List.take_of_length_le (by rw [List.length_drop, HL.out]; exact Nat.le_refl _)] at hcut
      have HC := Lib.hid hcut
      have HE : Hid (sumL l = finL (blocksL firstS l j) (l.drop N) n) := by
        unfold Hid; rw [sumL, wholeS, restL, HL.out, hK, hN]
      have hx := blocks_in first_in l j
      have hNn : N ≤ n := by omega
      generalize blocksL firstS l j = S at HW HE hx
      have HX := Lib.hid hx
      clear hx
      by_cases hcN : cb = N
      all_goals
        first | rw [if_pos hcN, show cb - N = 0 by omega] at HC | rw [if_neg hcN] at HC
        go_wp2_with fail
        refine (refFinish_any _ HX.out _ _ _ _ _ _ n _ HW.out HC.out (by omega) (by omega)).mono ?_
        rintro e w7 ⟨A7, c7, rfl, hv7, hb7⟩
        have HO := Lib.hid (own_more (B' := w.heap.size) hv7 (by omega))
        have R7 := RZ.trans (hb7.mono (by omega))
        clear hv7 hb7
        go_wp2
        go_ret
        exact ⟨_, _, rfl, by rw [HE.out]; exact HO.out, R7⟩

set_option maxRecDepth 100000 in
set_option maxHeartbeats 4000000 in
theorem refShort_any (l : List UInt8) (Ab : Option Addr) (n cb : Nat) (w : World) (hb : Bytes w Ab n cb l) :
    Calls Try.prog 61 #[.slice Ab n cb] w fun e w' => ∃ A' c', e = .returned (.slice A' 16 c') ∧ Bytes w' A' 16 c' (shortL l) ∧ Below w.heap.size w w' := by
  have HB := Lib.hid hb
  clear hb
  go_enter Try.func61, Try.ntmps61
  go_wp2_with fail
  refine (refSum_any _ _ _ _ _ HB.out).mono ?_
  rintro e w1 ⟨A1, c1, rfl, hv1, hb1⟩
  have hr : Bytes w1 A1 32 c1 (sumL l) := own_rd hv1
  have h1 := hr.le
  have h2 := hr.cap
  have hcut := hr.cut 0 16 (by omega) (by omega)
  obtain ⟨b, off, rfl, _⟩ := hr.at_ (i := 0) (by omega)
  rw [if_neg (by omega)] at hcut
  simp only [Option.map_some, add_off, Nat.add_zero, Nat.sub_zero, List.drop_zero] at hcut
  have HC := Lib.hid hcut
  clear hcut hv1 hr
  go_wp2
  go_ret
  exact ⟨_, _, rfl, HC.out, hb1⟩

set_option maxRecDepth 100000 in
set_option maxHeartbeats 4000000 in
theorem refChain_any (l : List UInt8) (Ab : Option Addr) (n cb : Nat) (k : Int) (w : World) (hb : Bytes w Ab n cb l) (hn : n ≤ 100000000000) :
    Calls Try.prog 59 #[.slice Ab n cb, .int .i64 k] w fun e w' => ∃ A' m c', e = .returned (.slice A' m c') ∧ Bytes w' A' m c' (chainL l (min k.toNat 65536)) ∧ Below w.heap.size w w' := by
  have HL := Lib.hid hb.len
  have HB := Lib.hid hb
  have cb1 := hb.le
  have cb2 := hb.cap
  clear hb
  obtain ⟨K, hK⟩ : ∃ K, min k.toNat 65536 = K := ⟨_, rfl⟩
  rw [hK]
  go_enter Try.func59, Try.ntmps59
  go_wp2_with fail
  refine (refJoin_any _ _ _ [l] _ (lists_made1 HB.out) n (by simp [HL.out]) (by omega)).mono ?_
  rintro e w1 ⟨A1, c1, rfl, hv1, hb1⟩
  have hR1 : Bytes w1 A1 n c1 l := by have := own_rd hv1; simpa [Bytes] using this
  have HR := Lib.hid hR1
  have R1 : Below w.heap.size w w1 := below_via (by go_grown) hb1 (by simp)
  have hs1 := R1.size
  clear hv1 hb1 hR1
  go_wp2
  go_loopw [5, 6] (fun o i wz => ∃ (j m cc : Nat) (AA : Option Addr), j ≤ K ∧ o = .slice AA m cc ∧ i = .int .i64 j ∧ Hid (Bytes wz AA m cc (chainL l j)) ∧ Below w.heap.size w wz) (fun _ i _ => K - (intOf i).toNat)
  case atStart => exact ⟨0, n, c1, A1, by omega, rfl, rfl, HR, R1⟩
  case round =>
    clear HR
    obtain ⟨j, m, cc, AA, hj, rfl, rfl, HR, hbz⟩ := hrel
    have hz := hbz.size
    by_cases hjK : j < K
    · have q1 : (j : Int) < k := by omega
      have q2 : (j : Int) < 65536 := by omega
      go_wp2_with fail
      refine (refShort_any _ _ _ _ _ HR.out).mono ?_
      rintro e w6 ⟨A6, c6, rfl, hv6, hb6⟩
      have HV6 := Lib.hid hv6
      have hB6 := hbz.trans (hb6.mono hz)
      clear hv6 hb6 HR
      go_wp2
      go_roundw
      case rel => exact ⟨j + 1, 16, c6, A6, by omega, rfl, by go_num, HV6, hB6⟩
      case measure => simp [intOf]; omega
    · obtain rfl : j = K := by omega
      by_cases q1 : (j : Int) < k
      · have q2 : ¬ (j : Int) < 65536 := by omega
        go_wp2
        go_ret
        exact ⟨_, _, _, rfl, HR.out, hbz⟩
      · go_wp2
        go_ret
        exact ⟨_, _, _, rfl, HR.out, hbz⟩
end Go.Proofs.Ytahphlcahaheiaa
