/- hash.Short, Chain and their references: what they return lies in a new block. -/
import Derived.Test.YtahphlcahaheiaaRefS
import Derived.Test.YtahphlcahaheiaaItems
import Derived.Test.YtahphlcahaheiaaHash
namespace Go.Proofs.Ytahphlcahaheiaa
open Go.RowKit

set_option maxRecDepth 100000 in
set_option maxHeartbeats 4000000 in
theorem short_new (l : List UInt8) (Ab : Option Addr) (n cb : Nat) (w : World) (hb : Bytes w Ab n cb l) :
    Calls Try.prog 60 #[.slice Ab n cb] w fun e w' => ∃ A', e = .returned (.slice A' 16 16) ∧ Bytes w' A' 16 16 (shortL l) ∧ Fresh w.heap.size A' ∧ Below w.heap.size w w' := by
  have HB := Lib.hid hb
  clear hb
  go_enter Try.func60, Try.ntmps60
  go_wp2_with fail
  refine (sum_any _ _ _ _ _ HB.out).mono ?_
  rintro e w1 ⟨A1, c1, rfl, hv1, hb1⟩
  have hfr := Fresh.own hv1
  have hr : Bytes w1 A1 32 c1 (sumL l) := own_rd hv1
  have h1 := hr.le
  have h2 := hr.cap
  have hcut := hr.cut 0 16 (by omega) (by omega)
  obtain ⟨b, off, rfl, _⟩ := hr.at_ (i := 0) (by omega)
  rw [if_neg (by omega)] at hcut
  simp only [Option.map_some, add_off, Nat.add_zero, Nat.sub_zero, List.drop_zero] at hcut
  have HC : Hid (Bytes w1 (some ⟨b, off, none⟩) 16 16 (shortL l)) := ⟨hcut.1, Nat.le_refl _, by decide, hcut.2.2.2⟩
  clear hcut hv1 hr
  have HFR : Hid (Fresh w.heap.size (some ⟨b, off, none⟩)) := hfr
  clear hfr
  go_wp2
  go_ret
  exact ⟨_, rfl, HC.out, (by intro a ha; cases ha; exact HFR.out ⟨b, off, none⟩ rfl), hb1⟩

set_option maxRecDepth 100000 in
set_option maxHeartbeats 4000000 in
theorem chain_new (l : List UInt8) (Ab : Option Addr) (n cb : Nat) (k : Int) (w : World) (hb : Bytes w Ab n cb l) (hn : n ≤ 100000000000) :
    Calls Try.prog 29 #[.slice Ab n cb, .int .i64 k] w fun e w' => ∃ A' m c', e = .returned (.slice A' m c') ∧ Bytes w' A' m c' (chainL l (min k.toNat 65536)) ∧ Fresh w.heap.size A' ∧ Below w.heap.size w w' := by
  have HL := Lib.hid hb.len
  have HB := Lib.hid hb
  have cb1 := hb.le
  have cb2 := hb.cap
  clear hb
  obtain ⟨K, hK⟩ : ∃ K, min k.toNat 65536 = K := ⟨_, rfl⟩
  rw [hK]
  go_enter Try.func29, Try.ntmps29
  go_wp2_with fail
  refine (clone_any _ _ _ _ _ HB.out (by omega)).mono ?_
  rintro e w1 ⟨A1, c1, rfl, hv1, hb1⟩
  have hR1 : Bytes w1 A1 n c1 l := own_rd hv1
  have HR := Lib.hid hR1
  have HF := Lib.hid (Fresh.more (B' := w.heap.size) (Fresh.own hv1) (by first | exact Nat.le_refl _ | simp))
  have R1 : Below w.heap.size w w1 := hb1
  have hs1 := R1.size
  clear hv1 hb1 hR1
  go_wp2
  all_goals
    go_loopw [5, 11] (fun o i wz => ∃ (j m cc : Nat) (AA : Option Addr), j ≤ K ∧ o = .slice AA m cc ∧ i = .int .i64 j ∧ Hid (Bytes wz AA m cc (chainL l j)) ∧ Hid (Fresh w.heap.size AA) ∧ Below w.heap.size w wz) (fun _ i _ => K - (intOf i).toNat)
    case atStart => exact ⟨0, n, c1, A1, by omega, rfl, rfl, HR, HF, R1⟩
    case round =>
      clear HR HF
      obtain ⟨j, m, cc, AA, hj, rfl, rfl, HR, HF, hbz⟩ := hrel
      have hz := hbz.size
      by_cases hjK : j < K
      · first
          | (exfalso; omega)
          | (have q1 : (j : Int) < k := by omega
             have q2 : (j : Int) < 65536 := by omega
             go_wp2_with fail
             refine (short_new _ _ _ _ _ HR.out).mono ?_
             rintro e w6 ⟨A6, rfl, hv6, hf6, hb6⟩
             have HV6 := Lib.hid hv6
             have HF6 := Lib.hid (hf6.more (B' := w.heap.size) (by omega))
             have hB6 := hbz.trans (hb6.mono hz)
             clear hv6 hb6 hf6 HR HF
             go_wp2
             go_roundw
             case rel => exact ⟨j + 1, 16, 16, A6, by omega, rfl, by go_num, HV6, HF6, hB6⟩
             case measure => simp [intOf]; omega)
      · obtain rfl : j = K := by omega
        first
          | have q1 : ¬ (j : Int) < 0 ∧ j = 0 := by omega
          | have q1 : ¬ (j : Int) < 65536 := by omega
          | have q1 : ¬ (j : Int) < k := by omega
        go_wp2
        go_ret
        first
          | exact ⟨_, _, _, rfl, HR.out, HF.out, hbz⟩
          | (have e0 : j = 0 := by omega
             rw [e0] at HR
             exact ⟨_, _, _, rfl, HR.out, HF.out, hbz⟩)
set_option maxRecDepth 100000 in
set_option maxHeartbeats 4000000 in
theorem refShort_new (l : List UInt8) (Ab : Option Addr) (n cb : Nat) (w : World) (hb : Bytes w Ab n cb l) :
    Calls Try.prog 61 #[.slice Ab n cb] w fun e w' => ∃ A' c', e = .returned (.slice A' 16 c') ∧ Bytes w' A' 16 c' (shortL l) ∧ Fresh w.heap.size A' ∧ Below w.heap.size w w' := by
  have HB := Lib.hid hb
  clear hb
  go_enter Try.func61, Try.ntmps61
  go_wp2_with fail
  refine (refSum_any _ _ _ _ _ HB.out).mono ?_
  rintro e w1 ⟨A1, c1, rfl, hv1, hb1⟩
  have hfr := Fresh.own hv1
  have hr : Bytes w1 A1 32 c1 (sumL l) := own_rd hv1
  have h1 := hr.le
  have h2 := hr.cap
  have hcut := hr.cut 0 16 (by omega) (by omega)
  obtain ⟨b, off, rfl, _⟩ := hr.at_ (i := 0) (by omega)
  rw [if_neg (by omega)] at hcut
  simp only [Option.map_some, add_off, Nat.add_zero, Nat.sub_zero, List.drop_zero] at hcut
  have HC := Lib.hid hcut
  clear hcut hv1 hr
  have HFR : Hid (Fresh w.heap.size (some ⟨b, off, none⟩)) := hfr
  clear hfr
  go_wp2
  go_ret
  exact ⟨_, _, rfl, HC.out, (by intro a ha; cases ha; exact HFR.out ⟨b, off, none⟩ rfl), hb1⟩

set_option maxRecDepth 100000 in
set_option maxHeartbeats 4000000 in
theorem refChain_new (l : List UInt8) (Ab : Option Addr) (n cb : Nat) (k : Int) (w : World) (hb : Bytes w Ab n cb l) (hn : n ≤ 100000000000) :
    Calls Try.prog 59 #[.slice Ab n cb, .int .i64 k] w fun e w' => ∃ A' m c', e = .returned (.slice A' m c') ∧ Bytes w' A' m c' (chainL l (min k.toNat 65536)) ∧ Fresh w.heap.size A' ∧ Below w.heap.size w w' := by
  have HL := Lib.hid hb.len
  have HB := Lib.hid hb
  have cb1 := hb.le
  have cb2 := hb.cap
  clear hb
  obtain ⟨K, hK⟩ : ∃ K, min k.toNat 65536 = K := ⟨_, rfl⟩
  rw [hK]
  go_enter Try.func59, Try.ntmps59
  go_wp2_with fail
  refine (refJoin_any _ _ _ [l] _ (lists_made1 HB.out) n (by simp [HL.out]) (by omega)).mono ?_
  rintro e w1 ⟨A1, c1, rfl, hv1, hb1⟩
  have hR1 : Bytes w1 A1 n c1 l := by have := own_rd hv1; simpa [Bytes] using this
  have HR := Lib.hid hR1
  have HF := Lib.hid (Fresh.more (B' := w.heap.size) (Fresh.own hv1) (by first | exact Nat.le_refl _ | simp))
  have R1 : Below w.heap.size w w1 := below_via (by go_grown) hb1 (by simp)
  have hs1 := R1.size
  clear hv1 hb1 hR1
  go_wp2
  go_loopw [5, 6] (fun o i wz => ∃ (j m cc : Nat) (AA : Option Addr), j ≤ K ∧ o = .slice AA m cc ∧ i = .int .i64 j ∧ Hid (Bytes wz AA m cc (chainL l j)) ∧ Hid (Fresh w.heap.size AA) ∧ Below w.heap.size w wz) (fun _ i _ => K - (intOf i).toNat)
  case atStart => exact ⟨0, n, c1, A1, by omega, rfl, rfl, HR, HF, R1⟩
  case round =>
    clear HR HF
    obtain ⟨j, m, cc, AA, hj, rfl, rfl, HR, HF, hbz⟩ := hrel
    have hz := hbz.size
    by_cases hjK : j < K
    · have q1 : (j : Int) < k := by omega
      have q2 : (j : Int) < 65536 := by omega
      go_wp2_with fail
      refine (refShort_new _ _ _ _ _ HR.out).mono ?_
      rintro e w6 ⟨A6, c6, rfl, hv6, hf6, hb6⟩
      have HV6 := Lib.hid hv6
      have HF6 := Lib.hid (hf6.more (B' := w.heap.size) (by omega))
      have hB6 := hbz.trans (hb6.mono hz)
      clear hv6 hb6 hf6 HR HF
      go_wp2
      go_roundw
      case rel => exact ⟨j + 1, 16, c6, A6, by omega, rfl, by go_num, HV6, HF6, hB6⟩
      case measure => simp [intOf]; omega
    · obtain rfl : j = K := by omega
      by_cases q1 : (j : Int) < k
      · have q2 : ¬ (j : Int) < 65536 := by omega
        go_wp2
        go_ret
        exact ⟨_, _, _, rfl, HR.out, HF.out, hbz⟩
      · go_wp2
        go_ret
        exact ⟨_, _, _, rfl, HR.out, HF.out, hbz⟩
theorem chain16 (l : List UInt8) (Ab : Option Addr) (cb k : Nat) (w : World) (hb : Bytes w Ab 16 cb l) (hk : k ≤ 65536) :
    Calls Try.prog 29 #[.slice Ab 16 cb, .int .i64 k] w fun e w' => ∃ A' c', e = .returned (.slice A' 16 c') ∧ Bytes w' A' 16 c' (chainL l k) ∧ Fresh w.heap.size A' ∧ Below w.heap.size w w' := by
  refine (chain_new l Ab 16 cb k w hb (by omega)).mono ?_
  rintro e w' ⟨A', m, c', rfl, hv, hf, hbw⟩
  rw [show min ((k : Int).toNat) 65536 = k by omega] at hv
  have hm : m = 16 := by
    rw [← hv.len]
    rcases Nat.eq_zero_or_pos k with h0 | h0
    · subst h0; exact hb.len
    · exact chainL_length _ _ h0
  subst hm
  exact ⟨A', c', rfl, hv, hf, hbw⟩
theorem refChain16 (l : List UInt8) (Ab : Option Addr) (cb k : Nat) (w : World) (hb : Bytes w Ab 16 cb l) (hk : k ≤ 65536) :
    Calls Try.prog 59 #[.slice Ab 16 cb, .int .i64 k] w fun e w' => ∃ A' c', e = .returned (.slice A' 16 c') ∧ Bytes w' A' 16 c' (chainL l k) ∧ Fresh w.heap.size A' ∧ Below w.heap.size w w' := by
  refine (refChain_new l Ab 16 cb k w hb (by omega)).mono ?_
  rintro e w' ⟨A', m, c', rfl, hv, hf, hbw⟩
  rw [show min ((k : Int).toNat) 65536 = k by omega] at hv
  have hm : m = 16 := by
    rw [← hv.len]
    rcases Nat.eq_zero_or_pos k with h0 | h0
    · subst h0; exact hb.len
    · exact chainL_length _ _ h0
  subst hm
  exact ⟨A', c', rfl, hv, hf, hbw⟩
theorem chain16i (l : List UInt8) (Ab : Option Addr) (cb : Nat) (K : Int) (k : Nat) (w : World) (hb : Bytes w Ab 16 cb l) (hK : K = k) (hk : k ≤ 65536) :
    Calls Try.prog 29 #[.slice Ab 16 cb, .int .i64 K] w fun e w' => ∃ A' c', e = .returned (.slice A' 16 c') ∧ Bytes w' A' 16 c' (chainL l k) ∧ Fresh w.heap.size A' ∧ Below w.heap.size w w' := by
  subst hK; exact chain16 l Ab cb k w hb hk
theorem refChain16i (l : List UInt8) (Ab : Option Addr) (cb : Nat) (K : Int) (k : Nat) (w : World) (hb : Bytes w Ab 16 cb l) (hK : K = k) (hk : k ≤ 65536) :
    Calls Try.prog 59 #[.slice Ab 16 cb, .int .i64 K] w fun e w' => ∃ A' c', e = .returned (.slice A' 16 c') ∧ Bytes w' A' 16 c' (chainL l k) ∧ Fresh w.heap.size A' ∧ Below w.heap.size w w' := by
  subst hK; exact refChain16 l Ab cb k w hb hk
end Go.Proofs.Ytahphlcahaheiaa
