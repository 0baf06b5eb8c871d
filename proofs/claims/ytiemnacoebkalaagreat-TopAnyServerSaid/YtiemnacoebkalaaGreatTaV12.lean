import Derived.Laws.CopyOwn
import Derived.Test.YtiemnacoebkalaaGreatTaV08
set_option linter.all false
set_option maxRecDepth 100000
set_option maxHeartbeats 4000000
namespace Go.Proofs.YtiemnacoebkalaaGreat
open Go.RowKit
theorem neg_and31 : ∀ k < 32, 0 < k -> bits BinOp.and IntKind.u64 (IntKind.u64.wrap (-(k : Nat) : Int)) 31 = 32 - (k : Int) := by decide +kernel
theorem rotate_any (x : Int) (K : Int) (w : World) (h0 : 0 < K) (h1 : K < 32) :
    Calls Tryz.prog 166 #[.int .u32 x, .int .i64 K] w fun e w' => e = .returned (.int .u32 (rotI x K.toNat)) ∧ w' = w := by
 obtain ⟨k, rfl⟩ := Int.eq_ofNat_of_zero_le (Int.le_of_lt h0); have e := neg_and31 k (by omega) (by omega); rw [Int.toNat_natCast]; have E : Hid (rotI x k = bits BinOp.or IntKind.u32 (x * 2 ^ (32 - k) % 4294967296) (x / 2 ^ (32 - (32 - k)))) := by unfold Hid; rw [show 32 - (32 - k) = k by omega, or_comm32]; simp [rotI, IntKind.wrap_u32]
 go_enter Tryz.func166, Tryz.ntmps166
 go_wp2; go_ret; exact ⟨by rw [E.out]; rfl, rfl⟩

set_option maxHeartbeats 8000000 in
theorem blk_any (h : St) (l : List UInt8) (g gk : Nat) (Ab : Option Addr) (cb : Nat) (w : World) (hh : Blk w g 220 (stA h)) (hk : Blk w gk 195 (kTab.map wV).toArray) (hb : Bytes w Ab 64 cb l) :
    Calls Tryz.prog 159 #[.pointer (some ⟨g, 0, none⟩), .slice Ab 64 cb, .pointer (some ⟨gk, 0, none⟩)] w fun e w' => e = .returned undef ∧ Blk w' g 220 (stA (blk h l)) ∧ w.grownBy w' (some g) := by
 have cb1 := hb.le; have cb2 := hb.cap; have HH := qq hh; have HK := qq hk; have HB := qq hb; clear hh hk hb
 go_enter Tryz.func159, Tryz.ntmps159
 go_wp2; rw [schedArr_zero l]
 go_loopw [20] (fun i wr => ∃ j : Nat, j <= 16 ∧ i = .int .i64 j ∧ Hid (Blk wr w.heap.size 195 (schedArr l j)) ∧ Below w.heap.size w wr) (fun i _ => 16 - (intOf i).toNat)
 case atStart => exact ⟨0, Nat.zero_le _, rfl, Blk.new _ _ _, by go_grown⟩
 case round =>
  obtain ⟨j, hj, rfl, hB, hbr⟩ := hrel
  by_cases hjk : j < 16
  · have HB2 := qs HB hbr; obtain ⟨b, off, rfl, c0⟩ := HB2.out.at_ (i := 4 * j) (by omega); obtain ⟨b', off', e1, c1⟩ := HB2.out.at_ (i := 4 * j + 1) (by omega); obtain ⟨b2, off2, e2, c2⟩ := HB2.out.at_ (i := 4 * j + 2) (by omega); obtain ⟨b3, off3, e3, c3⟩ := HB2.out.at_ (i := 4 * j + 3) (by omega); simp only [Option.some.injEq, Addr.mk.injEq, and_true] at e1 e2 e3; obtain ⟨rfl, rfl⟩ := e1; obtain ⟨rfl, rfl⟩ := e2; obtain ⟨rfl, rfl⟩ := e3; have hs0 := hB.out.cell j; rw [schedArr_open l j (by omega)] at hs0; have hs1 := hB.out.frozen j; have p0 : (0 : Int) <= 4 * (j : Int) := by omega
    have p1 : 4 * (j : Int) < 64 := by omega
    have p2 : (0 : Int) <= 4 * (j : Int) + 1 := by omega
    have p3 : 4 * (j : Int) + 1 < 64 := by omega
    have p4 : (0 : Int) <= 4 * (j : Int) + 2 := by omega
    have p5 : 4 * (j : Int) + 2 < 64 := by omega
    have p6 : (0 : Int) <= 4 * (j : Int) + 3 := by omega
    have p7 : 4 * (j : Int) + 3 < 64 := by omega
    have p8 : (j : Int) < 64 := by omega
    have g0 : IntKind.i64.wrap (4 * (j : Int)) = 4 * (j : Int) := IntWalk.i64_in _ (by omega); have g1 : IntKind.i64.wrap (4 * (j : Int) + 1) = 4 * (j : Int) + 1 := IntWalk.i64_in _ (by omega); have g2 : IntKind.i64.wrap (4 * (j : Int) + 2) = 4 * (j : Int) + 2 := IntWalk.i64_in _ (by omega); have g3 : IntKind.i64.wrap (4 * (j : Int) + 3) = 4 * (j : Int) + 3 := IntWalk.i64_in _ (by omega); have t0 : (4 * (j : Int)).toNat = 4 * j := by omega
    have t1 : (4 * (j : Int) + 1).toNat = 4 * j + 1 := by omega
    have t2 : (4 * (j : Int) + 2).toNat = 4 * j + 2 := by omega
    have t3 : (4 * (j : Int) + 3).toNat = 4 * j + 3 := by omega
    go_wp2; refine region_tail 35 (by kernel_rfl) (by kernel_rfl) ?_; simp only [List.take_succ_cons, List.take_zero, List.drop_succ_cons, List.drop_zero]
    repeat still_step
    refine wpStill_nil ?_; go_wp2
    go_roundw
    case rel =>
     refine ⟨j + 1, by omega, by go_num, ?_, ?_⟩
     · rw [word_or, <- next_low l j hjk]; have := hB.out.put j (.int .u32 (nextW l (sched l j) j)); rw [schedArr_set l j (by omega)] at this; exact this
     · go_grown
    case measure => simp [intOf]; omega
  · obtain rfl : j = 16 := by omega
    go_wp2; rw [show ((16 : Nat) : Int) = 16 from rfl]
    go_loopw [8] (fun i wr => ∃ j : Nat, 16 <= j ∧ j <= 64 ∧ i = .int .i64 j ∧ Hid (Blk wr w.heap.size 195 (schedArr l j)) ∧ Below w.heap.size w wr) (fun i _ => 64 - (intOf i).toNat)
    case atStart => exact ⟨16, by omega, by omega, rfl, hB, hbr⟩
    case round =>
     obtain ⟨j, hj0, hj, rfl, hB, hbr⟩ := hrel
     by_cases hjk : j < 64
     · have c15 := hB.out.cell (j - 15); rw [schedArr_at l j _ (by omega)] at c15; have c2 := hB.out.cell (j - 2); rw [schedArr_at l j _ (by omega)] at c2; have c7 := hB.out.cell (j - 7); rw [schedArr_at l j _ (by omega)] at c7; have c16 := hB.out.cell (j - 16); rw [schedArr_at l j _ (by omega)] at c16; have hs0 := hB.out.cell j; rw [schedArr_open l j (by omega)] at hs0; have hs1 := hB.out.frozen j; have p8 : (j : Int) < 64 := by omega
       have q15 : (15 : Int) <= (j : Int) := by omega
       have q2 : (2 : Int) <= (j : Int) := by omega
       have q7 : (7 : Int) <= (j : Int) := by omega
       have q16 : (16 : Int) <= (j : Int) := by omega
       have r15 : (j : Int) - 15 < 64 := by omega
       have r2 : (j : Int) - 2 < 64 := by omega
       have r7 : (j : Int) - 7 < 64 := by omega
       have r16 : (j : Int) - 16 < 64 := by omega
       have n15 : (0 : Int) <= (j : Int) - 15 := by omega
       have n2 : (0 : Int) <= (j : Int) - 2 := by omega
       have n7 : (0 : Int) <= (j : Int) - 7 := by omega
       have n16 : (0 : Int) <= (j : Int) - 16 := by omega
       have g15 : IntKind.i64.wrap ((j : Int) - 15) = (j : Int) - 15 := IntWalk.i64_in _ (by omega); have g2 : IntKind.i64.wrap ((j : Int) - 2) = (j : Int) - 2 := IntWalk.i64_in _ (by omega); have g7 : IntKind.i64.wrap ((j : Int) - 7) = (j : Int) - 7 := IntWalk.i64_in _ (by omega); have g16 : IntKind.i64.wrap ((j : Int) - 16) = (j : Int) - 16 := IntWalk.i64_in _ (by omega); have t15 : ((j : Int) - 15).toNat = j - 15 := by omega
       have t2 : ((j : Int) - 2).toNat = j - 2 := by omega
       have t7 : ((j : Int) - 7).toNat = j - 7 := by omega
       have t16 : ((j : Int) - 16).toNat = j - 16 := by omega
       go_wp2; refine region_still (by kernel_rfl) (by kernel_rfl) ?_
       repeat still_step
       refine wpStill_nil ?_
       go_wp2_with (go_at_call 166; refine (rotate_any _ _ _ (by decide) (by decide)).mono ?_; rintro e w1 ⟨rfl, rfl⟩)
       refine region_tail 15 (by kernel_rfl) (by kernel_rfl) ?_; simp only [List.take_succ_cons, List.take_zero, List.drop_succ_cons, List.drop_zero]
       repeat still_step
       refine wpStill_nil ?_; go_wp2
       go_roundw
       case rel =>
        refine ⟨j + 1, by omega, by omega, by go_num, ?_, ?_⟩
        · rw [schedArr_step l j _ hj0 hjk rfl]; exact hB.out.put j _
        · go_grown
       case measure => simp [intOf]; omega
     · obtain rfl : j = 64 := by omega
       have hB9 := HH.out.stays hbr; obtain ⟨a0, a1, a2, a3, a4, a5, a6, a7⟩ := blk8 hB9; go_wp2; rw [show ((64 : Nat) : Int) = 64 from rfl]; clear a0 a1 a2 a3 a4 a5 a6 a7; obtain ⟨wo, rfl⟩ : ∃ wo : World, wo = wr := ⟨_, rfl⟩; have hsz := hbr.size; have hgl := HH.out.lt; have hwl := hB.out.lt; have hV := qq (Blk.new wo 220 (stA h))
       go_loopw [105] (fun i wz => ∃ (k : Nat) (s : St), k <= 64 ∧ i = .int .i64 k ∧ Hid (s = rounds h (sched l 64) k) ∧ Hid (Blk wz wo.heap.size 220 (stA s)) ∧ Below wo.heap.size wo wz) (fun i _ => 64 - (intOf i).toNat)
       case atStart => exact ⟨0, h, by omega, rfl, rfl, hV, by go_grown⟩
       case round =>
        clear hV; obtain ⟨k, s, hk, rfl, hs, hV, hbz⟩ := hrel; have hwz := hbr.trans (hbz.mono hbr.size); obtain ⟨a0, a1, a2, a3, a4, a5, a6, a7⟩ := blk8 hV.out
        by_cases hk64 : k < 64
        · have ck0 := (HK.out.stays hwz).cell k; rw [kTab_at k hk64] at ck0; have cw := (hB.out.stays hbz).cell k; rw [schedArr_at l 64 _ (by omega)] at cw; have pk : (k : Int) < 64 := by omega
          go_wp2; refine region_still (by kernel_rfl) (by kernel_rfl) ?_
          repeat still_step
          refine wpStill_nil ?_; go_wp2; refine region_still (by kernel_rfl) (by kernel_rfl) ?_
          repeat (first | still_step | still_call (rotate_any _ _ _ (by decide) (by decide)))
          refine wpStill_nil ?_; go_wp2; refine region_still (by kernel_rfl) (by kernel_rfl) ?_
          repeat (first | still_step | still_call (rotate_any _ _ _ (by decide) (by decide)))
          refine wpStill_nil ?_; go_wp2; refine region_tail 2 (by kernel_rfl) (by kernel_rfl) ?_; simp only [List.take_succ_cons, List.take_zero, List.drop_succ_cons, List.drop_zero]
          repeat still_step
          refine wpStill_nil ?_; have hgo : wo.heap.size < wr.heap.size := hV.out.lt; refine wpList_copy_splice rfl _ _ _ _ rfl 46 Tryz.underlying155 (by kernel_rfl) _ _ 7 7 7 8 rfl rfl wo.heap.size 1 [.int .u32 s.a, .int .u32 s.b, .int .u32 s.c, .int .u32 s.d, .int .u32 s.e, .int .u32 s.f, .int .u32 s.g, .int .u32 s.h] 220 hV.out [.int .u32 s.a, .int .u32 s.b, .int .u32 s.c, .int .u32 s.d, .int .u32 s.e, .int .u32 s.f, .int .u32 s.g] rfl (fun _ => ⟨rfl, _, rfl, ?_⟩) (Nat.le_refl _) ?_ wo.heap.size wo (by go_grown) (Nat.le_refl _) ?_
          · intro j v hj; rw [add_off, Nat.zero_add]; refine (hV.out.cell j).trans ?_; rw [<- hj]
            match j, hj with
            | 0, _ | 1, _ | 2, _ | 3, _ | 4, _ | 5, _ | 6, _ => rfl
            | n + 7, hj => simp at hj
          · intro v hv; simp only [List.mem_cons, List.not_mem_nil, or_false] at hv; rcases hv with rfl | rfl | rfl | rfl | rfl | rfl | rfl <;> rfl
          · intro w9 h9 hb9; have H9 : Hid (Blk w9 wo.heap.size 220 (stA ⟨s.a, s.a, s.b, s.c, s.d, s.e, s.f, s.g⟩)) := h9; have d4 := H9.out.cell 4; have d0 := H9.out.cell 0; have f4 := H9.out.frozen 4; have f0 := H9.out.frozen 0; have hs9 := H9.out.lt; simp only [stA, List.getElem?_toArray, List.getElem?_cons_zero, List.getElem?_cons_succ] at d4 d0; clear h9 a0 a1 a2 a3 a4 a5 a6 a7 ck0 cw; go_wp2
            go_roundw
            case rel =>
             refine ⟨k + 1, step s (wAt kTab k) (wAt (sched l 64) k), by omega, by go_num, by unfold Hid; rw [hs.out]; rfl, ?_, by go_grown⟩; exact blk_step H9.out (round_e2 _ _ _ _ _ _) (round_a2 _ _ _ _ _ _ _)
            case measure => simp [intOf]; omega
        · obtain rfl : k = 64 := by omega
          obtain rfl : s = rounds h (sched l 64) 64 := hs.out
          generalize hR : rounds h (sched l 64) 64 = R at *
          have HR := qq hR; clear hR hs a0 a1 a2 a3 a4 a5 a6 a7; obtain ⟨wp, rfl⟩ : ∃ wp : World, wp = wr := ⟨_, rfl⟩; have hgo : wo.heap.size < wp.heap.size := hV.out.lt; have hG := qs HH hwz; have hGr : w.grownBy wp (some g) := grown_of_below hwz _; have hgne : ¬ g = wo.heap.size := by omega
          have hgne' : ¬ wo.heap.size = g := by omega
          go_wp2; rw [show ((64 : Nat) : Int) = 64 from rfl]
          go_loopw [181] (fun i wz => ∃ (k : Nat), k <= 8 ∧ i = .int .i64 k ∧ Hid (Blk wz g 220 (mixA h R k)) ∧ Hid (Blk wz wo.heap.size 220 (stA R)) ∧ Hid (w.grownBy wz (some g))) (fun i _ => 8 - (intOf i).toNat)
          case atStart => exact ⟨0, by omega, rfl, hG, hV, hGr⟩
          case round =>
           clear hG hV hGr; obtain ⟨k, hk, rfl, hG, hV, hGr⟩ := hrel
           by_cases hk8 : k < 8
           · have c0 := hG.out.cell k; rw [mixA_at h R k hk8] at c0; have c1 := hV.out.cell k; rw [stA_at R k hk8] at c1; have f0 := hG.out.frozen k; have pk : (k : Int) < 8 := by omega
             go_wp2; refine region_tail 11 (by kernel_rfl) (by kernel_rfl) ?_; simp only [List.take_succ_cons, List.take_zero, List.drop_succ_cons, List.drop_zero]
             repeat still_step
             refine wpStill_nil ?_; go_wp2
             go_roundw
             case rel =>
              refine ⟨k + 1, by omega, by go_num, ?_, ?_, ?_⟩
              · have := hG.out.put k (.int .u32 ((wAt (stL h) k + wAt (stL R) k) % 4294967296)); rw [mixA_set h R k hk8] at this; exact this
              · exact hV.out.far (p := ⟨g, k, none⟩) (fun e => hgne' e) _
              · exact grown_drew (grown_put hGr.out k _)
             case measure => simp [intOf]; omega
           · obtain rfl : k = 8 := by omega
             go_wp2
             go_end0
             exact ⟨rfl, by rw [blk, HR.out]; exact hG.out, hGr.out⟩
end Go.Proofs.YtiemnacoebkalaaGreat
