/- The walks of OctetsRoundTrip and OctetsOrder. -/
import Derived.Test.YtofadjcphaehcaaOctK
import Derived.Test.YtofadjcphaehcaaEq
namespace Go.Proofs.Ytofadjcphaehcaa
open Go.RowKit

theorem be_putL_take (v k : Nat) (hk : k ≤ 8) : be64 (putL v k) k = v % 256 ^ k := by
  unfold be64
  rw [List.take_of_length_le (by rw [putL_length]; exact Nat.le_refl _), be_putL]
  have : v % 256 ^ k < 256 ^ k := Nat.mod_lt _ (Nat.pow_pos (by omega))
  have h2 : (256 : Nat) ^ k ≤ 256 ^ 8 := Nat.pow_le_pow_right (by omega) hk
  exact Nat.mod_eq_of_lt (by omega)

theorem putL_be (l : List UInt8) : putL (be l) l.length = l := by
  have key : ∀ (l : List UInt8) (m : Nat), putL (be l + m * 256 ^ l.length) l.length = l := by
    intro l
    induction l with
    | nil => intro m; rfl
    | cons x l ih =>
      intro m
      rw [List.length_cons, putL, be_cons]
      have hb : be l < 256 ^ l.length := by
        have := be_putL (be l) l.length
        have h2 := ih 0
        simp at h2
        rw [h2] at this
        rw [this]
        exact Nat.mod_lt _ (Nat.pow_pos (by omega))
      congr 1
      · apply UInt8.toNat_inj.mp
        have hx := UInt8.toNat_lt x
        simp only [UInt8.toNat_ofNat']
        rw [show x.toNat * 256 ^ l.length + be l + m * 256 ^ (l.length + 1) = be l + 256 ^ l.length * (x.toNat + m * 256) by
          rw [Nat.pow_succ, Nat.mul_add, Nat.mul_comm x.toNat, Nat.mul_comm m, Nat.mul_assoc (256 ^ l.length), Nat.mul_comm 256 m]; omega]
        rw [Nat.add_mul_div_left _ _ (Nat.pow_pos (by omega)), Nat.div_eq_of_lt hb]
        omega
      · rw [show x.toNat * 256 ^ l.length + be l + m * 256 ^ (l.length + 1) = be l + (x.toNat + m * 256) * 256 ^ l.length by
          rw [Nat.pow_succ, Nat.add_mul, Nat.mul_comm (256 ^ l.length) 256, ← Nat.mul_assoc]; omega]
        exact ih _
  have := key l 0
  simpa using this

theorem putL_be64 (l : List UInt8) (h : l.length ≤ 8) : putL (be64 l l.length) l.length = l := by
  have hb : be l < 256 ^ l.length := by
    have h1 := be_putL (be l) l.length
    rw [putL_be] at h1
    rw [h1]
    exact Nat.mod_lt _ (Nat.pow_pos (by omega))
  have h2 : (256 : Nat) ^ l.length ≤ 256 ^ 8 := Nat.pow_le_pow_right (by omega) h
  unfold be64
  rw [List.take_of_length_le (Nat.le_refl _), Nat.mod_eq_of_lt (by omega)]
  exact putL_be l

theorem tmod9 (a : Int) : -9 < a.tmod 9 ∧ a.tmod 9 < 9 := by
  have := Int.tmod_eq_emod (a := a) (b := 9)
  split at this <;> omega

/-- v & (1<<8k - 1). -/
theorem mask_and (v k : Nat) (hv : v < 18446744073709551616) (hk : k ≤ 8) : bits BinOp.and IntKind.u64 (v : Int) ((2 ^ (8 * k) - 1 : Nat) : Int) = (be64 (putL v k) k : Int) := by
  have h2 : (2 : Nat) ^ (8 * k) ≤ 2 ^ 64 := Nat.pow_le_pow_right (by omega) (by omega)
  rw [bits_and_u64_nat v _ hv (by omega), be_putL_take v k hk, Nat.and_two_pow_sub_one_eq_mod]
  rw [show (256 : Nat) = 2 ^ 8 from rfl, ← Nat.pow_mul]
theorem mask_wrap (k : Nat) (hk : k < 8) : IntKind.u64.wrap (IntKind.u64.wrap (2 ^ (8 * k)) - 1) = ((2 ^ (8 * k) - 1 : Nat) : Int) := by
  match k, hk with
  | 0, _ => decide
  | 1, _ => decide
  | 2, _ => decide
  | 3, _ => decide
  | 4, _ => decide
  | 5, _ => decide
  | 6, _ => decide
  | 7, _ => decide

set_option maxRecDepth 100000 in
set_option maxHeartbeats 2000000 in
theorem roundTrip_walk (v : Nat) (hv : v < 18446744073709551616) (a1 : Int) (A : Option Addr) (n c : Nat) (l : List UInt8) (w : World) (hb : Bytes w A n c l) :
    Calls Try.prog 3 #[.int .u64 v, .int .i64 a1, .slice A n c] w fun e w' => e = .returned (.bool true) ∧ Below w.heap.size w w' := by
  have hcap := hb.cap
  have hle := hb.le
  by_cases h8 : 8 < n
  · clear hb
    obtain ⟨r, hr⟩ : ∃ r, a1.tmod 9 = r := ⟨_, rfl⟩
    have hr1 : -9 < r := by have := tmod9 a1; omega
    have hr2 : r < 9 := by have := tmod9 a1; omega
    by_cases hn : r < 0
    · go_enter Try.func3, Try.ntmps3
      go_wp2_with fail
      all_goals
        refine (octKnown _).mono ?_
        rintro e w1 ⟨rfl, hb1⟩
        go_wp2
        go_ret
        exact ⟨rfl, hb1⟩
    · go_enter Try.func3, Try.ntmps3
      go_wp2_with fail
      all_goals
        refine (octKnown _).mono ?_
        rintro e w1 ⟨rfl, hb1⟩
        go_wp2
        go_ret
        exact ⟨rfl, hb1⟩
  · obtain ⟨k, hk8, hk⟩ : ∃ k : Nat, k ≤ 8 ∧ (a1.tmod 9 = k ∨ a1.tmod 9 = -(k : Int) ∧ 0 < k) := by
      have := tmod9 a1
      refine ⟨(a1.tmod 9).natAbs, by omega, by omega⟩
    have hpb : putL (be64 l n) n = l := by have := putL_be64 l (by rw [hb.len]; omega); rwa [hb.len] at this
    have HPB := Lib.hid hpb
    have HB := Lib.hid hb
    have ha := mask_and v k hv hk8
    obtain ⟨M, hM⟩ : ∃ M : Nat, 2 ^ (8 * k) - 1 = M := ⟨_, rfl⟩
    rw [hM] at ha
    have HA := Lib.hid ha
    clear hb hpb hv ha
    by_cases hk9 : k = 8
    · subst hk9
      have HM : Hid ((18446744073709551615 : Int) = (M : Int)) := by unfold Hid; omega
      clear hM
      rcases hk with hr | ⟨hr, hk0⟩
      · go_enter Try.func3, Try.ntmps3
        go_wp2_with fail
        refine (octKnown _).mono ?_
        rintro e w1 ⟨rfl, hb1⟩
        have hs1 := hb1.size
        rw [HM.out]
        go_wp2_with fail
        refine (put_reads v 8 (by omega) _).mono ?_
        rintro e w2 ⟨A2, c2, rfl, hv2, hb2⟩
        have hB2 := hb1.trans (hb2.mono hs1)
        have hs2 := hB2.size
        go_wp2_with fail
        refine (get_any _ _ _ _ _ hv2).mono ?_
        rintro e w3 ⟨rfl, rfl⟩
        have hand := HA.out
        go_wp2_with fail
        refine (put_reads v 8 (by omega) _).mono ?_
        rintro e w4 ⟨A4, c4, rfl, hv4, hb4⟩
        have hB4 := hB2.trans (hb4.mono hs2)
        have hs4 := hB4.size
        clear hand hv4 hb4
        go_wp2_with fail
        refine (get_any _ _ _ _ _ (HB.out.stays hB4)).mono ?_
        rintro e w5 ⟨rfl, rfl⟩
        go_wp2_with fail
        refine (put_reads _ _ (by omega) _).mono ?_
        rintro e w6 ⟨A6, c6, rfl, hv6, hb6⟩
        have hB6 := hB4.trans (hb6.mono hs4)
        rw [HPB.out] at hv6
        go_wp2_with fail
        refine (refSame_any _ _ _ _ _ _ _ _ _ hv6 (HB.out.stays hB6)).mono ?_
        rintro e w7 ⟨rfl, rfl⟩
        rw [decide_eq_true rfl]
        go_wp2
        go_ret
        exact ⟨rfl, hB6⟩
      · go_enter Try.func3, Try.ntmps3
        go_wp2_with fail
        refine (octKnown _).mono ?_
        rintro e w1 ⟨rfl, hb1⟩
        have hs1 := hb1.size
        rw [HM.out]
        go_wp2_with fail
        refine (put_reads v 8 (by omega) _).mono ?_
        rintro e w2 ⟨A2, c2, rfl, hv2, hb2⟩
        have hB2 := hb1.trans (hb2.mono hs1)
        have hs2 := hB2.size
        go_wp2_with fail
        refine (get_any _ _ _ _ _ hv2).mono ?_
        rintro e w3 ⟨rfl, rfl⟩
        have hand := HA.out
        go_wp2_with fail
        refine (put_reads v 8 (by omega) _).mono ?_
        rintro e w4 ⟨A4, c4, rfl, hv4, hb4⟩
        have hB4 := hB2.trans (hb4.mono hs2)
        have hs4 := hB4.size
        clear hand hv4 hb4
        go_wp2_with fail
        refine (get_any _ _ _ _ _ (HB.out.stays hB4)).mono ?_
        rintro e w5 ⟨rfl, rfl⟩
        go_wp2_with fail
        refine (put_reads _ _ (by omega) _).mono ?_
        rintro e w6 ⟨A6, c6, rfl, hv6, hb6⟩
        have hB6 := hB4.trans (hb6.mono hs4)
        rw [HPB.out] at hv6
        go_wp2_with fail
        refine (refSame_any _ _ _ _ _ _ _ _ _ hv6 (HB.out.stays hB6)).mono ?_
        rintro e w7 ⟨rfl, rfl⟩
        rw [decide_eq_true rfl]
        go_wp2
        go_ret
        exact ⟨rfl, hB6⟩
    · have hk7 : k < 8 := by omega
      have hw := mask_wrap k hk7
      rw [hM] at hw
      have HW := Lib.hid hw
      clear hM hw hk9
      rcases hk with hr | ⟨hr, hk0⟩
      · go_enter Try.func3, Try.ntmps3
        go_wp2_with fail
        refine (octKnown _).mono ?_
        rintro e w1 ⟨rfl, hb1⟩
        have hs1 := hb1.size
        rw [HW.out]
        go_wp2_with fail
        refine (put_reads v k (by omega) _).mono ?_
        rintro e w2 ⟨A2, c2, rfl, hv2, hb2⟩
        have hB2 := hb1.trans (hb2.mono hs1)
        have hs2 := hB2.size
        go_wp2_with fail
        refine (get_any _ _ _ _ _ hv2).mono ?_
        rintro e w3 ⟨rfl, rfl⟩
        have hand := HA.out
        go_wp2_with fail
        refine (put_reads v k (by omega) _).mono ?_
        rintro e w4 ⟨A4, c4, rfl, hv4, hb4⟩
        have hB4 := hB2.trans (hb4.mono hs2)
        have hs4 := hB4.size
        clear hand hv4 hb4
        go_wp2_with fail
        refine (get_any _ _ _ _ _ (HB.out.stays hB4)).mono ?_
        rintro e w5 ⟨rfl, rfl⟩
        go_wp2_with fail
        refine (put_reads _ _ (by omega) _).mono ?_
        rintro e w6 ⟨A6, c6, rfl, hv6, hb6⟩
        have hB6 := hB4.trans (hb6.mono hs4)
        rw [HPB.out] at hv6
        go_wp2_with fail
        refine (refSame_any _ _ _ _ _ _ _ _ _ hv6 (HB.out.stays hB6)).mono ?_
        rintro e w7 ⟨rfl, rfl⟩
        rw [decide_eq_true rfl]
        go_wp2
        go_ret
        exact ⟨rfl, hB6⟩
      · go_enter Try.func3, Try.ntmps3
        go_wp2_with fail
        refine (octKnown _).mono ?_
        rintro e w1 ⟨rfl, hb1⟩
        have hs1 := hb1.size
        rw [HW.out]
        go_wp2_with fail
        refine (put_reads v k (by omega) _).mono ?_
        rintro e w2 ⟨A2, c2, rfl, hv2, hb2⟩
        have hB2 := hb1.trans (hb2.mono hs1)
        have hs2 := hB2.size
        go_wp2_with fail
        refine (get_any _ _ _ _ _ hv2).mono ?_
        rintro e w3 ⟨rfl, rfl⟩
        have hand := HA.out
        go_wp2_with fail
        refine (put_reads v k (by omega) _).mono ?_
        rintro e w4 ⟨A4, c4, rfl, hv4, hb4⟩
        have hB4 := hB2.trans (hb4.mono hs2)
        have hs4 := hB4.size
        clear hand hv4 hb4
        go_wp2_with fail
        refine (get_any _ _ _ _ _ (HB.out.stays hB4)).mono ?_
        rintro e w5 ⟨rfl, rfl⟩
        go_wp2_with fail
        refine (put_reads _ _ (by omega) _).mono ?_
        rintro e w6 ⟨A6, c6, rfl, hv6, hb6⟩
        have hB6 := hB4.trans (hb6.mono hs4)
        rw [HPB.out] at hv6
        go_wp2_with fail
        refine (refSame_any _ _ _ _ _ _ _ _ _ hv6 (HB.out.stays hB6)).mono ?_
        rintro e w7 ⟨rfl, rfl⟩
        rw [decide_eq_true rfl]
        go_wp2
        go_ret
        exact ⟨rfl, hB6⟩
theorem roundTrip_walk' (a0 : Int) (w0 : (Lit.int .u64 a0).wf = true) (a1 : Int) (A : Option Addr) (n c : Nat) (l : List UInt8) (w : World) (hb : Bytes w A n c l) :
    Calls Try.prog 3 #[.int .u64 a0, .int .i64 a1, .slice A n c] w fun e w' => e = .returned (.bool true) ∧ Below w.heap.size w w' := by
  have hb0 := bounds_u64 w0
  obtain ⟨v, rfl⟩ := Int.eq_ofNat_of_zero_le hb0.1
  exact roundTrip_walk v (by omega) a1 A n c l w hb
end Go.Proofs.Ytofadjcphaehcaa
