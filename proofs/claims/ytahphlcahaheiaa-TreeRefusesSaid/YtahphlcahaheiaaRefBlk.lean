/- sectimeref02.block: the words behind a block. -/
import Derived.Test.YtahphlcahaheiaaShaW
import Derived.Outline
namespace Go.Proofs.Ytahphlcahaheiaa
open Go.RowKit

set_option maxRecDepth 100000 in
set_option maxHeartbeats 4000000 in
theorem refBlock_any (h : St) (l : List UInt8) (Ah Ak Ab : Option Addr) (ch ck cb : Nat) (w : World) (hh : Words w Ah 8 ch (stL h)) (hk : Words w Ak 64 ck kTab) (hb : Bytes w Ab 64 cb l) :
    Calls Try.prog 72 #[.slice Ah 8 ch, .slice Ak 64 ck, .slice Ab 64 cb] w fun e w' => ∃ A', e = .returned (.slice A' 8 8) ∧ Words w' A' 8 8 (stL (blk h l)) ∧ Below w.heap.size w w' := by
  have ch1 := hh.le
  have ch2 := hh.cap
  have ck1 := hk.le
  have ck2 := hk.cap
  have cb1 := hb.le
  have cb2 := hb.cap
  have HH := Lib.hid hh
  have HK := Lib.hid hk
  have HB := Lib.hid hb
  clear hh hk hb
  go_enter Try.func72, Try.ntmps72
  go_wp2
  rw [schedArr_zero l]
  go_loopw [8] (fun i wr => ∃ j : Nat, j ≤ 16 ∧ i = .int .i64 j ∧ Hid (Blk wr w.heap.size 103 (schedArr l j)) ∧ Below w.heap.size w wr) (fun i _ => 16 - (intOf i).toNat)
  case atStart => exact ⟨0, Nat.zero_le _, rfl, Blk.new _ _ _, by go_grown⟩
  case round =>
    obtain ⟨j, hj, rfl, hB, hbr⟩ := hrel
    by_cases hjk : j < 16
    · have HB2 := Lib.hid (HB.out.stays hbr)
      obtain ⟨b, off, rfl, c0⟩ := HB2.out.at_ (i := 4 * j) (by omega)
      obtain ⟨b', off', e1, c1⟩ := HB2.out.at_ (i := 4 * j + 1) (by omega)
      obtain ⟨b2, off2, e2, c2⟩ := HB2.out.at_ (i := 4 * j + 2) (by omega)
      obtain ⟨b3, off3, e3, c3⟩ := HB2.out.at_ (i := 4 * j + 3) (by omega)
      simp only [Option.some.injEq, Addr.mk.injEq, and_true] at e1 e2 e3
      obtain ⟨rfl, rfl⟩ := e1
      obtain ⟨rfl, rfl⟩ := e2
      obtain ⟨rfl, rfl⟩ := e3
      have hs0 := hB.out.cell j
      rw [schedArr_open l j (by omega)] at hs0
      have hs1 := hB.out.frozen j
      have p0 : (0 : Int) ≤ 4 * (j : Int) := by omega
      have p1 : 4 * (j : Int) < 64 := by omega
      have p2 : (0 : Int) ≤ 4 * (j : Int) + 1 := by omega
      have p3 : 4 * (j : Int) + 1 < 64 := by omega
      have p4 : (0 : Int) ≤ 4 * (j : Int) + 2 := by omega
      have p5 : 4 * (j : Int) + 2 < 64 := by omega
      have p6 : (0 : Int) ≤ 4 * (j : Int) + 3 := by omega
      have p7 : 4 * (j : Int) + 3 < 64 := by omega
      have p8 : (j : Int) < 64 := by omega
      have g0 : IntKind.i64.wrap (4 * (j : Int)) = 4 * (j : Int) := IntWalk.i64_in _ (by omega)
      have g1 : IntKind.i64.wrap (4 * (j : Int) + 1) = 4 * (j : Int) + 1 := IntWalk.i64_in _ (by omega)
      have g2 : IntKind.i64.wrap (4 * (j : Int) + 2) = 4 * (j : Int) + 2 := IntWalk.i64_in _ (by omega)
      have g3 : IntKind.i64.wrap (4 * (j : Int) + 3) = 4 * (j : Int) + 3 := IntWalk.i64_in _ (by omega)
      have t0 : (4 * (j : Int)).toNat = 4 * j := by omega
      have t1 : (4 * (j : Int) + 1).toNat = 4 * j + 1 := by omega
      have t2 : (4 * (j : Int) + 2).toNat = 4 * j + 2 := by omega
      have t3 : (4 * (j : Int) + 3).toNat = 4 * j + 3 := by omega
      go_wp2
      refine region_tail 35 (by kernel_rfl) (by kernel_rfl) ?_
      simp only [List.take_succ_cons, List.take_zero, List.drop_succ_cons, List.drop_zero]
      repeat still_step
      refine wpStill_nil ?_
      go_wp2
      go_roundw
      case rel =>
        refine ⟨j + 1, by omega, by go_num, ?_, ?_⟩
        · rw [word_or, ← next_low l j hjk]
          have := hB.out.put j (.int .u32 (nextW l (sched l j) j))
          rw [schedArr_set l j (by omega)] at this
          exact this
        · go_grown
      case measure => simp [intOf]; omega
    · obtain rfl : j = 16 := by omega
      go_wp2
      rw [show ((16 : Nat) : Int) = 16 from rfl]
      go_loopw [9] (fun i wr => ∃ j : Nat, 16 ≤ j ∧ j ≤ 64 ∧ i = .int .i64 j ∧ Hid (Blk wr w.heap.size 103 (schedArr l j)) ∧ Below w.heap.size w wr) (fun i _ => 64 - (intOf i).toNat)
      case atStart => exact ⟨16, by omega, by omega, rfl, hB, hbr⟩
      case round =>
        rename_i wr _
        obtain ⟨j, hj0, hj, rfl, hB, hbr⟩ := hrel
        by_cases hjk : j < 64
        · have c15 := hB.out.cell (j - 15)
          rw [schedArr_at l j _ (by omega)] at c15
          have c2 := hB.out.cell (j - 2)
          rw [schedArr_at l j _ (by omega)] at c2
          have c7 := hB.out.cell (j - 7)
          rw [schedArr_at l j _ (by omega)] at c7
          have c16 := hB.out.cell (j - 16)
          rw [schedArr_at l j _ (by omega)] at c16
          have hs0 := hB.out.cell j
          rw [schedArr_open l j (by omega)] at hs0
          have hs1 := hB.out.frozen j
          have p8 : (j : Int) < 64 := by omega
          have q15 : (15 : Int) ≤ (j : Int) := by omega
          have q2 : (2 : Int) ≤ (j : Int) := by omega
          have q7 : (7 : Int) ≤ (j : Int) := by omega
          have q16 : (16 : Int) ≤ (j : Int) := by omega
          have r15 : (j : Int) - 15 < 64 := by omega
          have r2 : (j : Int) - 2 < 64 := by omega
          have r7 : (j : Int) - 7 < 64 := by omega
          have r16 : (j : Int) - 16 < 64 := by omega
          have n15 : (0 : Int) ≤ (j : Int) - 15 := by omega
          have n2 : (0 : Int) ≤ (j : Int) - 2 := by omega
          have n7 : (0 : Int) ≤ (j : Int) - 7 := by omega
          have n16 : (0 : Int) ≤ (j : Int) - 16 := by omega
          have g15 : IntKind.i64.wrap ((j : Int) - 15) = (j : Int) - 15 := IntWalk.i64_in _ (by omega)
          have g2 : IntKind.i64.wrap ((j : Int) - 2) = (j : Int) - 2 := IntWalk.i64_in _ (by omega)
          have g7 : IntKind.i64.wrap ((j : Int) - 7) = (j : Int) - 7 := IntWalk.i64_in _ (by omega)
          have g16 : IntKind.i64.wrap ((j : Int) - 16) = (j : Int) - 16 := IntWalk.i64_in _ (by omega)
          have t15 : ((j : Int) - 15).toNat = j - 15 := by omega
          have t2 : ((j : Int) - 2).toNat = j - 2 := by omega
          have t7 : ((j : Int) - 7).toNat = j - 7 := by omega
          have t16 : ((j : Int) - 16).toNat = j - 16 := by omega
          go_wp2
          refine region_still (by kernel_rfl) (by kernel_rfl) ?_
          repeat still_step
          refine wpStill_nil ?_
          go_wp2
          refine region_tail 29 (by kernel_rfl) (by kernel_rfl) ?_
          simp only [List.take_succ_cons, List.take_zero, List.drop_succ_cons, List.drop_zero]
          repeat (first | still_step | still_call (turn_any _ _ _ (by decide) (by decide)))
          refine wpStill_nil ?_
          go_wp2
          go_roundw
          case rel =>
            refine ⟨j + 1, by omega, by omega, by go_num, ?_, ?_⟩
            · rw [schedArr_step l j _ hj0 hjk rfl]
              exact hB.out.put j _
            · go_grown
          case measure => simp [intOf]; omega
        · obtain rfl : j = 64 := by omega
          obtain ⟨bh, oh, rfl, a0, a1, a2, a3, a4, a5, a6, a7⟩ := words8 (HH.out.stays hbr)
          go_wp2
          refine region_still (by kernel_rfl) (by kernel_rfl) ?_
          repeat still_step
          refine wpStill_nil ?_
          go_wp2
          go_loopw [12, 13, 14, 15, 16, 17, 18, 19, 20] (fun a b c d e f g hh i wz => ∃ (k : Nat) (s : St), k ≤ 64 ∧ i = .int .i64 k ∧ Hid (s = rounds h (sched l 64) k) ∧ a = .int .u32 s.a ∧ b = .int .u32 s.b ∧ c = .int .u32 s.c ∧ d = .int .u32 s.d ∧ e = .int .u32 s.e ∧ f = .int .u32 s.f ∧ g = .int .u32 s.g ∧ hh = .int .u32 s.h ∧ Below wr.heap.size wr wz) (fun _ _ _ _ _ _ _ _ i _ => 64 - (intOf i).toNat)
          case atStart => exact ⟨0, h, by omega, rfl, rfl, rfl, rfl, rfl, rfl, rfl, rfl, rfl, rfl, by go_grown⟩
          case round =>
            rename_i wz _
            obtain ⟨k, s, hk, rfl, hs, rfl, rfl, rfl, rfl, rfl, rfl, rfl, rfl, hbz⟩ := hrel
            have hwz := hbr.trans (hbz.mono hbr.size)
            by_cases hk64 : k < 64
            · obtain ⟨bk, ok, rfl, ck0⟩ := (HK.out.stays hwz).at_ hk64
              have cw := (hB.out.stays hbz).cell k
              rw [schedArr_at l 64 _ (by omega)] at cw
              have pk : (k : Int) < 64 := by omega
              go_wp2
              refine region_still (by kernel_rfl) (by kernel_rfl) ?_
              repeat (first | still_step | still_call (turn_any _ _ _ (by decide) (by decide)))
              refine wpStill_nil ?_
              go_wp2_with (go_at_call 92; refine (turn_any _ _ _ (by decide) (by decide)).mono ?_; rintro e w1 ⟨rfl, rfl⟩)
              go_roundw
              case rel =>
                exact ⟨k + 1, step s (wAt kTab k) (wAt (sched l 64) k), by omega, by go_num, by unfold Hid; rw [hs.out]; rfl, congrArg (Value.int .u32) (round_a _ _ _ _ _ _ _), rfl, rfl, rfl, congrArg (Value.int .u32) (round_e _ _ _ _ _ _), rfl, rfl, rfl, by go_grown⟩
              case measure => simp [intOf]; omega
            · obtain rfl : k = 64 := by omega
              obtain rfl : s = rounds h (sched l 64) 64 := hs.out
              clear a0 a1 a2 a3 a4 a5 a6 a7
              obtain ⟨b', off', e0, a0, a1, a2, a3, a4, a5, a6, a7⟩ := words8 (HH.out.stays hwz)
              simp only [Option.some.injEq, Addr.mk.injEq, and_true] at e0
              obtain ⟨rfl, rfl⟩ := e0
              generalize hR : rounds h (sched l 64) 64 = R
              have HR := Lib.hid hR
              clear hR hs
              go_wp2
              refine region_tail 40 (by kernel_rfl) (by kernel_rfl) ?_
              simp only [List.take_succ_cons, List.take_zero, List.drop_succ_cons, List.drop_zero]
              repeat still_step
              refine wpStill_nil ?_
              go_wp2
              go_ret
              refine ⟨_, rfl, ?_, by have hz := hwz.size; go_grown⟩
              rw [blk, HR.out]
              exact words_lit (addS h R)
end Go.Proofs.Ytahphlcahaheiaa
