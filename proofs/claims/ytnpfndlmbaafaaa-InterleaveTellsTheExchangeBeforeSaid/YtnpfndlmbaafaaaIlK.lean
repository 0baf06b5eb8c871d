/- The known case of layer 24. -/
import Derived.Test.YtnpfndlmbaafaaaIlS
import Derived.Test.YtnpfndlmbaafaaaIlT
import Derived.Test.YtnpfndlmbaafaaaBlks
namespace Go.Proofs.Ytnpfndlmbaafaaa
open Go.RowKit

set_option maxRecDepth 100000 in
set_option maxHeartbeats 4000000 in
theorem ilKnown (w : World) : Calls Try.prog 36 #[] w fun e w' => e = .returned (.bool true) ∧ Below w.heap.size w w' := by
  go_enter Try.func36, Try.ntmps36
  go_wp2_with fail
  refine (ilAsk_fresh false 0 0 0 0 0 0 77 5 (by decide) (by decide) (by decide) _).mono ?_
  rintro e y1 ⟨rfl, hb⟩
  have hbx : Below w.heap.size w y1 := below_via (by go_grown) hb (by first | (simp; done) | (simp; omega))
  have R2 := Lib.hid hbx
  have hz_y1 := R2.out.size
  clear hb hbx 
  go_upto_region 2 with fail
  obtain ⟨x3, i_, h_, ex3, ei_, eh_⟩ : ∃ x3 i_ h_, x3 = (y1.alloc (.cells #[.bool true, .bool false, .int .u64 77, .int .i64 5, .int .i64 0, .int .i64 0, .int .u64 0, .int .u64 0] 61)).alloc (.cells #[.int .i64 0, .int .i64 4, .int .i64 3, .int .i64 0, .int .i64 6, .int .i64 0, .int .u32 0, .int .u32 0, .int .u32 0, .int .u64 0, .int .u64 0, .int .u64 0, .int .u64 77] 25) ∧ i_ = y1.heap.size ∧ h_ = y1.heap.size + 1 := ⟨_, _, _, rfl, rfl, rfl⟩
  rw [← ex3, ← eh_, ← ei_]
  have hbx : Below y1.heap.size y1 x3 := by rw [ex3]; exact below_alloc2 _ _ _ 
  have o_I_H : i_ < h_ := by omega
  have g_I : w.heap.size ≤ i_ := by rw [ei_]; exact hz_y1
  have BI := Lib.hid (show Blk x3 i_ 61 #[.bool true, .bool false, .int .u64 77, .int .i64 5, .int .i64 0, .int .i64 0, .int .u64 0, .int .u64 0] by rw [ex3, ei_]; exact blk_new2_0 _ _ _ _ _ )
  have BH := Lib.hid (show Blk x3 h_ 25 #[.int .i64 0, .int .i64 4, .int .i64 3, .int .i64 0, .int .i64 6, .int .i64 0, .int .u32 0, .int .u32 0, .int .u32 0, .int .u64 0, .int .u64 0, .int .u64 0, .int .u64 77] by rw [ex3, eh_]; exact blk_new2_1 _ _ _ _ _ )
  have R4 := Lib.hid (R2.out.trans (hbx.mono hz_y1))
  have hz_x3 := R4.out.size
  clear hbx ex3 ei_ eh_ R2 hz_y1
  have kH_0 : x3.cell? ⟨h_, 0, none⟩ = some (.int .i64 0) := BH.out.cell 0
  have kH_1 : x3.cell? ⟨h_, 1, none⟩ = some (.int .i64 4) := BH.out.cell 1
  have kH_2 : x3.cell? ⟨h_, 2, none⟩ = some (.int .i64 3) := BH.out.cell 2
  have kH_3 : x3.cell? ⟨h_, 3, none⟩ = some (.int .i64 0) := BH.out.cell 3
  have kH_4 : x3.cell? ⟨h_, 4, none⟩ = some (.int .i64 6) := BH.out.cell 4
  have kH_5 : x3.cell? ⟨h_, 5, none⟩ = some (.int .i64 0) := BH.out.cell 5
  have kH_6 : x3.cell? ⟨h_, 6, none⟩ = some (.int .u32 0) := BH.out.cell 6
  have kH_7 : x3.cell? ⟨h_, 7, none⟩ = some (.int .u32 0) := BH.out.cell 7
  have kH_8 : x3.cell? ⟨h_, 8, none⟩ = some (.int .u32 0) := BH.out.cell 8
  have kH_9 : x3.cell? ⟨h_, 9, none⟩ = some (.int .u64 0) := BH.out.cell 9
  have kH_10 : x3.cell? ⟨h_, 10, none⟩ = some (.int .u64 0) := BH.out.cell 10
  have kH_11 : x3.cell? ⟨h_, 11, none⟩ = some (.int .u64 0) := BH.out.cell 11
  have kH_12 : x3.cell? ⟨h_, 12, none⟩ = some (.int .u64 77) := BH.out.cell 12
  go_wp2_with fail
  refine (serve_zero_lt none 0 0 [] 0 4 3 0 6 0 0 0 0 0 0 0 77 2 1000 1001 _ (Echs.nil _) (by decide) rfl (by decide) (by decide) (by decide) (by decide) rfl).mono ?_
  rintro e y5 ⟨A1, c1, rfl, hm, hf, hb⟩
  clear kH_0 kH_1 kH_2 kH_3 kH_4 kH_5 kH_6 kH_7 kH_8 kH_9 kH_10 kH_11 kH_12
  have hbx : Below x3.heap.size x3 y5 := below_via (by go_grown) hb (by first | (simp; done) | (simp; omega))
  have BI := Lib.hid (BI.out.stays hbx)
  have BH := Lib.hid (BH.out.stays hbx)
  have M := Lib.hid hm
  have R6 := Lib.hid (R4.out.trans (hbx.mono hz_x3))
  have hz_y5 := R6.out.size
  clear hb hbx hm R4 hz_x3
  clear hf
  go_upto_region 3 with fail
  obtain ⟨x7, a_, ex7, ea_⟩ : ∃ x7 a_, x7 = y5.alloc (.cells #[.int .i64 0, .int .i64 4, .int .i64 4, .int .i64 2, .int .i64 6, .int .i64 (-20), .int .u32 0, .int .u32 0, .int .u32 0, .int .u64 0, .int .u64 77, .int .u64 1000, .int .u64 1001] 25) ∧ a_ = y5.heap.size := ⟨_, _, rfl, rfl⟩
  rw [← ex7, ← ea_]
  have hbx : Below y5.heap.size y5 x7 := by rw [ex7]; exact below_alloc1 _ _ 
  have o_I_A : i_ < a_ := by rw [ea_]; exact BI.out.lt
  have o_H_A : h_ < a_ := by rw [ea_]; exact BH.out.lt
  have g_A : w.heap.size ≤ a_ := by rw [ea_]; exact hz_y5
  have BI := Lib.hid (BI.out.stays hbx)
  have BH := Lib.hid (BH.out.stays hbx)
  have M := Lib.hid (M.out.stays hbx)
  have BA := Lib.hid (show Blk x7 a_ 25 #[.int .i64 0, .int .i64 4, .int .i64 4, .int .i64 2, .int .i64 6, .int .i64 (-20), .int .u32 0, .int .u32 0, .int .u32 0, .int .u64 0, .int .u64 77, .int .u64 1000, .int .u64 1001] by rw [ex7, ea_]; exact blk_new1_0 _ _ _ )
  have R8 := Lib.hid (R6.out.trans (hbx.mono hz_y5))
  have hz_x7 := R8.out.size
  clear hbx ex7 ea_ R6 hz_y5
  have kI_0 : x7.cell? ⟨i_, 0, none⟩ = some (.bool true) := BI.out.cell 0
  have kI_1 : x7.cell? ⟨i_, 1, none⟩ = some (.bool false) := BI.out.cell 1
  have kI_2 : x7.cell? ⟨i_, 2, none⟩ = some (.int .u64 77) := BI.out.cell 2
  have kI_3 : x7.cell? ⟨i_, 3, none⟩ = some (.int .i64 5) := BI.out.cell 3
  have kI_4 : x7.cell? ⟨i_, 4, none⟩ = some (.int .i64 0) := BI.out.cell 4
  have kI_5 : x7.cell? ⟨i_, 5, none⟩ = some (.int .i64 0) := BI.out.cell 5
  have kI_6 : x7.cell? ⟨i_, 6, none⟩ = some (.int .u64 0) := BI.out.cell 6
  have kI_7 : x7.cell? ⟨i_, 7, none⟩ = some (.int .u64 0) := BI.out.cell 7
  have kA_0 : x7.cell? ⟨a_, 0, none⟩ = some (.int .i64 0) := BA.out.cell 0
  have kA_1 : x7.cell? ⟨a_, 1, none⟩ = some (.int .i64 4) := BA.out.cell 1
  have kA_2 : x7.cell? ⟨a_, 2, none⟩ = some (.int .i64 4) := BA.out.cell 2
  have kA_3 : x7.cell? ⟨a_, 3, none⟩ = some (.int .i64 2) := BA.out.cell 3
  have kA_4 : x7.cell? ⟨a_, 4, none⟩ = some (.int .i64 6) := BA.out.cell 4
  have kA_5 : x7.cell? ⟨a_, 5, none⟩ = some (.int .i64 (-20)) := BA.out.cell 5
  have kA_6 : x7.cell? ⟨a_, 6, none⟩ = some (.int .u32 0) := BA.out.cell 6
  have kA_7 : x7.cell? ⟨a_, 7, none⟩ = some (.int .u32 0) := BA.out.cell 7
  have kA_8 : x7.cell? ⟨a_, 8, none⟩ = some (.int .u32 0) := BA.out.cell 8
  have kA_9 : x7.cell? ⟨a_, 9, none⟩ = some (.int .u64 0) := BA.out.cell 9
  have kA_10 : x7.cell? ⟨a_, 10, none⟩ = some (.int .u64 77) := BA.out.cell 10
  have kA_11 : x7.cell? ⟨a_, 11, none⟩ = some (.int .u64 1000) := BA.out.cell 11
  have kA_12 : x7.cell? ⟨a_, 12, none⟩ = some (.int .u64 1001) := BA.out.cell 12
  go_wp2_with fail
  refine (ilTake_basic false 77 5 0 0 0 0 0 4 4 2 6 (-20) 0 0 0 0 77 1000 1001 9 (by decide) (by decide) (by decide) rfl rfl _).mono ?_
  rintro e y9 ⟨rfl, hb⟩
  clear kI_0 kI_1 kI_2 kI_3 kI_4 kI_5 kI_6 kI_7 kA_0 kA_1 kA_2 kA_3 kA_4 kA_5 kA_6 kA_7 kA_8 kA_9 kA_10 kA_11 kA_12
  have hbx : Below x7.heap.size x7 y9 := below_via (by go_grown) hb (by first | (simp; done) | (simp; omega))
  have BI := Lib.hid (BI.out.stays hbx)
  have BH := Lib.hid (BH.out.stays hbx)
  have BA := Lib.hid (BA.out.stays hbx)
  have M := Lib.hid (M.out.stays hbx)
  have R10 := Lib.hid (R8.out.trans (hbx.mono hz_x7))
  have hz_y9 := R10.out.size
  clear hb hbx  R8 hz_x7
  go_upto_region 4 with fail
  obtain ⟨x11, j_, r_, ex11, ej_, er_⟩ : ∃ x11 j_ r_, x11 = (y9.alloc (.cells #[.bool false, .bool true, .int .u64 0, .int .i64 0, .int .i64 5, .int .i64 9, .int .u64 1000, .int .u64 77] 61)).alloc (.cells #[.int .i64 5, .int .i64 9, .int .u64 1000, .int .u64 1001, .bool false] 71) ∧ j_ = y9.heap.size ∧ r_ = y9.heap.size + 1 := ⟨_, _, _, rfl, rfl, rfl⟩
  rw [← ex11, ← er_, ← ej_]
  have hbx : Below y9.heap.size y9 x11 := by rw [ex11]; exact below_alloc2 _ _ _ 
  have o_I_J : i_ < j_ := by rw [ej_]; exact BI.out.lt
  have o_H_J : h_ < j_ := by rw [ej_]; exact BH.out.lt
  have o_A_J : a_ < j_ := by rw [ej_]; exact BA.out.lt
  have o_J_R : j_ < r_ := by omega
  have g_J : w.heap.size ≤ j_ := by rw [ej_]; exact hz_y9
  have BI := Lib.hid (BI.out.stays hbx)
  have BH := Lib.hid (BH.out.stays hbx)
  have BA := Lib.hid (BA.out.stays hbx)
  have M := Lib.hid (M.out.stays hbx)
  have BJ := Lib.hid (show Blk x11 j_ 61 #[.bool false, .bool true, .int .u64 0, .int .i64 0, .int .i64 5, .int .i64 9, .int .u64 1000, .int .u64 77] by rw [ex11, ej_]; exact blk_new2_0 _ _ _ _ _ )
  have BR := Lib.hid (show Blk x11 r_ 71 #[.int .i64 5, .int .i64 9, .int .u64 1000, .int .u64 1001, .bool false] by rw [ex11, er_]; exact blk_new2_1 _ _ _ _ _ )
  have R12 := Lib.hid (R10.out.trans (hbx.mono hz_y9))
  have hz_x11 := R12.out.size
  clear hbx ex11 ej_ er_ R10 hz_y9
  have kR_0 : x11.cell? ⟨r_, 0, none⟩ = some (.int .i64 5) := BR.out.cell 0
  have kR_1 : x11.cell? ⟨r_, 1, none⟩ = some (.int .i64 9) := BR.out.cell 1
  have kR_2 : x11.cell? ⟨r_, 2, none⟩ = some (.int .u64 1000) := BR.out.cell 2
  have kR_3 : x11.cell? ⟨r_, 3, none⟩ = some (.int .u64 1001) := BR.out.cell 3
  have kR_4 : x11.cell? ⟨r_, 4, none⟩ = some (.bool false) := BR.out.cell 4
  go_wp2
  go_ret
  exact ⟨rfl, R12.out⟩
end Go.Proofs.Ytnpfndlmbaafaaa
