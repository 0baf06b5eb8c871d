import Derived.Test.YtbjmojajhkhekaaBase
namespace Go.Proofs.Ytbjmojajhkhekaa
open Go.RowKit

set_option maxHeartbeats 400000 in
theorem refGet_any (A : Option Addr) (n c : Nat) (l : List UInt8) (w : World) (hv : Bytes w A n c l) :
    Calls Try.prog 67 #[.slice A n c] w fun e w' => e = .returned (.int .u64 (be64 l n)) ∧ w = w' := by
  have hcap := hv.cap
  have hle := hv.le
  have HV := Lib.hid hv
  clear hv
  go_enter Try.func67, Try.ntmps67
  go_wp2
  go_loop [3, 4] (fun x i => ∃ j : Nat, j ≤ n ∧ i = .int .i64 j ∧ x = .int .u64 (be64 l j)) (fun _ i => n - (intOf i).toNat)
  case atStart => exact ⟨0, Nat.zero_le _, rfl, rfl⟩
  case round =>
    obtain ⟨j, hj, rfl, rfl⟩ := hrel
    by_cases hjk : j < n
    · obtain ⟨b, off, rfl, hc⟩ := HV.out.at_ hjk
      have hb1 := byteAt_lt l j
      have hb2 := be64_lt l j
      go_wp2
      go_round
      case rel => exact ⟨j + 1, by omega, by go_num, by rw [be64_step l j (by rw [HV.out.len]; exact hjk)]⟩
      case measure => simp [intOf]; omega
    · go_wp2
      go_ret
      obtain rfl : j = n := by omega
      exact ⟨rfl, rfl⟩

/-- Only the last eight bytes count. -/
theorem be_drop (l : List UInt8) (h : 8 ≤ l.length) : be64 (l.drop (l.length - 8)) 8 = be64 l l.length := by
  have key : ∀ (a b : List UInt8) (x : Nat), b.length = 8 → (a ++ b).foldl (fun a x => a * 256 + x.toNat) x % 18446744073709551616 = b.foldl (fun a x => a * 256 + x.toNat) 0 % 18446744073709551616 := by
    intro a b x hb
    rw [List.foldl_append]
    generalize a.foldl (fun a x => a * 256 + x.toNat) x = y
    obtain ⟨b0, b1, b2, b3, b4, b5, b6, b7, rfl⟩ : ∃ b0 b1 b2 b3 b4 b5 b6 b7, b = [b0, b1, b2, b3, b4, b5, b6, b7] := by
      match b, hb with
      | [b0, b1, b2, b3, b4, b5, b6, b7], _ => exact ⟨b0, b1, b2, b3, b4, b5, b6, b7, rfl⟩
    simp only [List.foldl_cons, List.foldl_nil]
    omega
  unfold be64 be
  rw [List.take_of_length_le (Nat.le_refl _)]
  conv => rhs; rw [← List.take_append_drop (l.length - 8) l]
  rw [key _ _ _ (by simp; omega), List.take_of_length_le (by simp; omega)]

set_option maxHeartbeats 400000 in
theorem get_any (A : Option Addr) (n c : Nat) (l : List UInt8) (w : World) (hv : Bytes w A n c l) :
    Calls Try.prog 62 #[.slice A n c] w fun e w' => e = .returned (.int .u64 (be64 l n)) ∧ w = w' := by
  have hcap := hv.cap
  have hle := hv.le
  by_cases h8 : n ≤ 8
  · have HV := Lib.hid hv
    clear hv
    go_enter Try.func62, Try.ntmps62
    go_wp2
    go_loop [3, 13] (fun x i => ∃ j : Nat, j ≤ n ∧ i = .int .i64 j ∧ x = .int .u64 (be64 l j)) (fun _ i => n - (intOf i).toNat)
    case atStart => exact ⟨0, Nat.zero_le _, rfl, rfl⟩
    case round =>
      obtain ⟨j, hj, rfl, rfl⟩ := hrel
      by_cases hjk : j < n
      · obtain ⟨b, off, rfl, hc⟩ := HV.out.at_ hjk
        have hb1 := byteAt_lt l j
        have hb2 := be64_lt l j
        go_wp2
        go_round
        case rel => exact ⟨j + 1, by omega, by go_num, by rw [be64_step l j (by rw [HV.out.len]; exact hjk)]⟩
        case measure => simp [intOf]; omega
      · go_wp2
        go_ret
        obtain rfl : j = n := by omega
        exact ⟨rfl, rfl⟩
  · have hv2 := hv.cut (n - 8) n (by omega) (Nat.le_refl _)
    rw [if_neg (by omega), show n - (n - 8) = 8 by omega] at hv2
    have HL := Lib.hid hv.len
    have h8' : 8 < n := by omega
    have HV := Lib.hid hv2
    clear hv hv2 h8
    go_enter Try.func62, Try.ntmps62
    go_wp2
    rw [show n - (n - 8) = 8 by omega]
    go_loop [3, 13] (fun x i => ∃ j : Nat, j ≤ 8 ∧ i = .int .i64 j ∧ x = .int .u64 (be64 ((l.drop (n - 8)).take 8) j)) (fun _ i => 8 - (intOf i).toNat)
    case atStart => exact ⟨0, Nat.zero_le _, rfl, rfl⟩
    case round =>
      obtain ⟨j, hj, rfl, rfl⟩ := hrel
      by_cases hjk : j < 8
      · obtain ⟨b, off, he, hc⟩ := HV.out.at_ hjk
        have hb1 := byteAt_lt ((l.drop (n - 8)).take 8) j
        have hb2 := be64_lt ((l.drop (n - 8)).take 8) j
        go_wp2
        go_round
        case rel => exact ⟨j + 1, by omega, by go_num, by rw [be64_step _ j (by rw [HV.out.len]; exact hjk)]⟩
        case measure => simp [intOf]; omega
      · go_wp2
        go_ret
        obtain rfl : j = 8 := by omega
        refine ⟨?_, rfl⟩
        have e := be_drop l (by rw [HL.out]; omega)
        rw [HL.out] at e
        rw [← e, List.take_of_length_le (by simp [HL.out]; omega)]
        rfl
end Go.Proofs.Ytbjmojajhkhekaa
