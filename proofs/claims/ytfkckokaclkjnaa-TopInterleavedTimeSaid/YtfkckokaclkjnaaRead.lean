/- The readings of an exchange as instants; the sanity check of the second half. -/
import Derived.Test.YtfkckokaclkjnaaAt
import Derived.Test.YtfkckokaclkjnaaEraUG
import Derived.BigRegion
namespace Go.Proofs.Ytfkckokaclkjnaa
open Go Go.RowKit

set_option maxRecDepth 100000 in
set_option maxHeartbeats 4000000 in
theorem readings_ok (lo hi t2 t3 r1 r4 : Int) (il : Bool) (w : World) (hs : spanOk lo hi) (h1 : lo ≤ t2) (h2 : t2 ≤ hi) (h3 : lo ≤ t3) (h4 : t3 ≤ hi) (hw : hi - lo < 4503599627370496) : Calls Try.prog 10 #[.agg #[.int .i64 r1, .int .i64 r4, .int .u64 ((eraD t2 * 4096 : Nat) : Int), .int .u64 ((eraD t3 * 4096 : Nat) : Int), .bool il], .agg #[.int .i64 lo, .int .i64 hi]] w fun e w' => e = .returned (.tuple #[.agg #[.int .i64 r1, .int .i64 t2, .int .i64 t3, .int .i64 r4, .int .i64 0], .bool true]) ∧ Below w.heap.size w w' := by
  have C2 := Lib.hid (fun w => only_one lo hi t2 w hs h1 h2 hw)
  have C3 := Lib.hid (fun w => only_one lo hi t3 w hs h3 h4 hw)
  obtain ⟨Z2, hZ2⟩ : ∃ Z, eraD t2 * 4096 = Z := ⟨_, rfl⟩
  obtain ⟨Z3, hZ3⟩ : ∃ Z, eraD t3 * 4096 = Z := ⟨_, rfl⟩
  rw [hZ2] at C2 ⊢
  rw [hZ3] at C3 ⊢
  clear hZ2 hZ3 hs h1 h2 h3 h4 hw
  go_enter Try.func10, Try.ntmps10
  go_upto_region 1 with fail
  obtain ⟨x1, r_, w_, h_, ex1, er_, ew_, eh_⟩ : ∃ x1 r_ w_ h_, x1 = ((w.alloc (.cells #[.int .i64 r1, .int .i64 r4, .int .u64 Z2, .int .u64 Z3, .bool il] 44)).alloc (.cells #[.int .i64 lo, .int .i64 hi] 31)).alloc (.cells #[.int .i64 0, .int .i64 0, .int .i64 0, .int .i64 0, .int .i64 0] 48) ∧ r_ = w.heap.size ∧ w_ = w.heap.size + 1 ∧ h_ = w.heap.size + 1 + 1 := ⟨_, _, _, _, rfl, rfl, rfl, rfl⟩
  rw [← ex1, ← eh_, ← ew_, ← er_]
  have hbx : Below w.heap.size w x1 := by rw [ex1]; exact below_alloc3 _ _ _ _ 
  have o_R_W : r_ < w_ := by omega
  have o_W_H : w_ < h_ := by omega
  have g_R : w.heap.size ≤ r_ := by rw [er_]; exact Nat.le_refl _
  have BR := Lib.hid (show Blk x1 r_ 44 #[.int .i64 r1, .int .i64 r4, .int .u64 Z2, .int .u64 Z3, .bool il] by rw [ex1, er_]; exact blk_new3_0 _ _ _ _ _ _ _ )
  have BW := Lib.hid (show Blk x1 w_ 31 #[.int .i64 lo, .int .i64 hi] by rw [ex1, ew_]; exact blk_new3_1 _ _ _ _ _ _ _ )
  have BH := Lib.hid (show Blk x1 h_ 48 #[.int .i64 0, .int .i64 0, .int .i64 0, .int .i64 0, .int .i64 0] by rw [ex1, eh_]; exact blk_new3_2 _ _ _ _ _ _ _ )
  have R2 := Lib.hid hbx
  have hz_x1 := R2.out.size
  clear hbx ex1 er_ ew_ eh_
  have kR_0 : x1.cell? ⟨r_, 0, none⟩ = some (.int .i64 r1) := BR.out.cell 0
  have kR_1 : x1.cell? ⟨r_, 1, none⟩ = some (.int .i64 r4) := BR.out.cell 1
  have kR_2 : x1.cell? ⟨r_, 2, none⟩ = some (.int .u64 Z2) := BR.out.cell 2
  have kR_3 : x1.cell? ⟨r_, 3, none⟩ = some (.int .u64 Z3) := BR.out.cell 3
  have kR_4 : x1.cell? ⟨r_, 4, none⟩ = some (.bool il) := BR.out.cell 4
  have kW_0 : x1.cell? ⟨w_, 0, none⟩ = some (.int .i64 lo) := BW.out.cell 0
  have kW_1 : x1.cell? ⟨w_, 1, none⟩ = some (.int .i64 hi) := BW.out.cell 1
  go_wp2_with fail
  refine (C2.out _).mono ?_
  rintro e y3 ⟨rfl, hb⟩
  clear kR_0 kR_1 kR_2 kR_3 kR_4 kW_0 kW_1
  have hbx : Below x1.heap.size x1 y3 := below_via (by go_grown) hb (by first | (simp; done) | (simp; omega))
  have BR := Lib.hid (BR.out.stays hbx)
  have BW := Lib.hid (BW.out.stays hbx)
  have BH := Lib.hid (BH.out.stays hbx)
  have R4 := Lib.hid (R2.out.trans (hbx.mono hz_x1))
  have hz_y3 := R4.out.size
  clear hb hbx  R2 hz_x1
  go_upto_region 2 with fail
  obtain ⟨x5, a_, ex5, ea_⟩ : ∃ x5 a_, x5 = y3.alloc (.cells #[.int .i64 t2, .int .i64 t2] 31) ∧ a_ = y3.heap.size := ⟨_, _, rfl, rfl⟩
  rw [← ex5, ← ea_]
  have hbx : Below y3.heap.size y3 x5 := by rw [ex5]; exact below_alloc1 _ _ 
  have o_R_A : r_ < a_ := by rw [ea_]; exact BR.out.lt
  have o_W_A : w_ < a_ := by rw [ea_]; exact BW.out.lt
  have o_H_A : h_ < a_ := by rw [ea_]; exact BH.out.lt
  have g_A : w.heap.size ≤ a_ := by rw [ea_]; exact hz_y3
  have BR := Lib.hid (BR.out.stays hbx)
  have BW := Lib.hid (BW.out.stays hbx)
  have BH := Lib.hid (BH.out.stays hbx)
  have BA := Lib.hid (show Blk x5 a_ 31 #[.int .i64 t2, .int .i64 t2] by rw [ex5, ea_]; exact blk_new1_0 _ _ _ )
  have R6 := Lib.hid (R4.out.trans (hbx.mono hz_y3))
  have hz_x5 := R6.out.size
  clear hbx ex5 ea_ R4 hz_y3
  have kR_0 : x5.cell? ⟨r_, 0, none⟩ = some (.int .i64 r1) := BR.out.cell 0
  have kR_1 : x5.cell? ⟨r_, 1, none⟩ = some (.int .i64 r4) := BR.out.cell 1
  have kR_2 : x5.cell? ⟨r_, 2, none⟩ = some (.int .u64 Z2) := BR.out.cell 2
  have kR_3 : x5.cell? ⟨r_, 3, none⟩ = some (.int .u64 Z3) := BR.out.cell 3
  have kR_4 : x5.cell? ⟨r_, 4, none⟩ = some (.bool il) := BR.out.cell 4
  have kW_0 : x5.cell? ⟨w_, 0, none⟩ = some (.int .i64 lo) := BW.out.cell 0
  have kW_1 : x5.cell? ⟨w_, 1, none⟩ = some (.int .i64 hi) := BW.out.cell 1
  go_wp2_with fail
  refine (C3.out _).mono ?_
  rintro e y7 ⟨rfl, hb⟩
  clear kR_0 kR_1 kR_2 kR_3 kR_4 kW_0 kW_1
  have hbx : Below x5.heap.size x5 y7 := below_via (by go_grown) hb (by first | (simp; done) | (simp; omega))
  have BR := Lib.hid (BR.out.stays hbx)
  have BW := Lib.hid (BW.out.stays hbx)
  have BH := Lib.hid (BH.out.stays hbx)
  have BA := Lib.hid (BA.out.stays hbx)
  have R8 := Lib.hid (R6.out.trans (hbx.mono hz_x5))
  have hz_y7 := R8.out.size
  clear hb hbx  R6 hz_x5
  go_upto_region 3 with fail
  obtain ⟨x9, b_, ex9, eb_⟩ : ∃ x9 b_, x9 = y7.alloc (.cells #[.int .i64 t3, .int .i64 t3] 31) ∧ b_ = y7.heap.size := ⟨_, _, rfl, rfl⟩
  rw [← ex9, ← eb_]
  have hbx : Below y7.heap.size y7 x9 := by rw [ex9]; exact below_alloc1 _ _ 
  have o_R_B : r_ < b_ := by rw [eb_]; exact BR.out.lt
  have o_W_B : w_ < b_ := by rw [eb_]; exact BW.out.lt
  have o_H_B : h_ < b_ := by rw [eb_]; exact BH.out.lt
  have o_A_B : a_ < b_ := by rw [eb_]; exact BA.out.lt
  have g_B : w.heap.size ≤ b_ := by rw [eb_]; exact hz_y7
  have BR := Lib.hid (BR.out.stays hbx)
  have BW := Lib.hid (BW.out.stays hbx)
  have BH := Lib.hid (BH.out.stays hbx)
  have BA := Lib.hid (BA.out.stays hbx)
  have BB := Lib.hid (show Blk x9 b_ 31 #[.int .i64 t3, .int .i64 t3] by rw [ex9, eb_]; exact blk_new1_0 _ _ _ )
  have R10 := Lib.hid (R8.out.trans (hbx.mono hz_y7))
  have hz_x9 := R10.out.size
  clear hbx ex9 eb_ R8 hz_y7
  have kR_0 : x9.cell? ⟨r_, 0, none⟩ = some (.int .i64 r1) := BR.out.cell 0
  have kR_1 : x9.cell? ⟨r_, 1, none⟩ = some (.int .i64 r4) := BR.out.cell 1
  have kR_2 : x9.cell? ⟨r_, 2, none⟩ = some (.int .u64 Z2) := BR.out.cell 2
  have kR_3 : x9.cell? ⟨r_, 3, none⟩ = some (.int .u64 Z3) := BR.out.cell 3
  have kR_4 : x9.cell? ⟨r_, 4, none⟩ = some (.bool il) := BR.out.cell 4
  have kA_0 : x9.cell? ⟨a_, 0, none⟩ = some (.int .i64 t2) := BA.out.cell 0
  have kA_1 : x9.cell? ⟨a_, 1, none⟩ = some (.int .i64 t2) := BA.out.cell 1
  have kB_0 : x9.cell? ⟨b_, 0, none⟩ = some (.int .i64 t3) := BB.out.cell 0
  have kB_1 : x9.cell? ⟨b_, 1, none⟩ = some (.int .i64 t3) := BB.out.cell 1
  have cH := BH.out.cell
  have zH := BH.out.frozen
  have n1 : ¬ r_ = h_ := by omega
  have n2 : ¬ a_ = h_ := by omega
  have n3 : ¬ b_ = h_ := by omega
  have n4 : ¬ h_ = r_ := by omega
  have n5 : ¬ h_ = a_ := by omega
  have n6 : ¬ h_ = b_ := by omega
  go_region
  clear zH cH
  clear kR_0 kR_1 kR_2 kR_3 kR_4 kA_0 kA_1 kB_0 kB_1
  have RX := Lib.hid R10.out
  generalize hwd : World.setCell _ ⟨h_, 4, none⟩ _ = wd
  have hwd2 : stores x9 h_ [.int .i64 r1, .int .i64 t2, .int .i64 t3, .int .i64 r4, .int .i64 0] 0 = wd := hwd
  have D1 : Blk wd h_ 48 #[.int .i64 r1, .int .i64 t2, .int .i64 t3, .int .i64 r4, .int .i64 0] := by rw [← hwd2]; exact BH.out.filled _ rfl
  have RD : Below w.heap.size w wd := by rw [← hwd2]; exact Below.stores (by omega) _ _ _ RX.out
  clear hwd hwd2
  have d1_0 : wd.cell? ⟨h_, 0, none⟩ = some (.int .i64 r1) := D1.cell 0
  have d1_1 : wd.cell? ⟨h_, 1, none⟩ = some (.int .i64 t2) := D1.cell 1
  have d1_2 : wd.cell? ⟨h_, 2, none⟩ = some (.int .i64 t3) := D1.cell 2
  have d1_3 : wd.cell? ⟨h_, 3, none⟩ = some (.int .i64 r4) := D1.cell 3
  have d1_4 : wd.cell? ⟨h_, 4, none⟩ = some (.int .i64 0) := D1.cell 4
  try go_wp2_with fail
  refine bodyPost_ret (v := .tuple #[.agg #[.int .i64 r1, .int .i64 t2, .int .i64 t3, .int .i64 r4, .int .i64 0], .bool true]) (by simp [results, Try.results10, go_sem, *]) rfl ⟨rfl, RD.drew⟩
set_option maxRecDepth 100000 in
set_option maxHeartbeats 4000000 in
theorem awake_ok  (w : World)  : Calls Try.prog 13 #[] w fun e w' => e = .returned (.bool true) ∧ Below w.heap.size w w' := by
  have CW := Lib.hid (fun w => wire_ok 4089446400000000 w (by decide))
  have CO := Lib.hid (fun w => only_one 4089446399999000 4089446400001000 4089446400000000 w (by decide) (by decide) (by decide) (by decide))
  have CA := Lib.hid (fun w => at_ok 5 4089446400000000 4089446400000000 9 w (by decide) (by decide) (by decide) (by decide) (by decide) (by decide) (by decide))
  rw [show (4089446400000000 : Int) + (9 - 5) = 4089446400000004 by decide] at CA
  obtain ⟨W, hW⟩ : ∃ W, eraD 4089446400000000 * 4096 = W := ⟨_, rfl⟩
  rw [hW] at CW CO
  clear hW
  go_enter Try.func13, Try.ntmps13
  go_wp2_with fail
  refine (CW.out _).mono ?_
  rintro e q_ ⟨rfl, rfl⟩
  go_wp2_with fail
  refine (CO.out _).mono ?_
  rintro e y1 ⟨rfl, hb⟩
  have hbx : Below w.heap.size w y1 := below_via (by go_grown) hb (by first | (simp; done) | (simp; omega))
  have R2 := Lib.hid hbx
  have hz_y1 := R2.out.size
  clear hb hbx 
  go_upto_region 3 with fail
  obtain ⟨x3, s_, ex3, es_⟩ : ∃ x3 s_, x3 = y1.alloc (.cells #[.int .i64 4089446400000000, .int .i64 4089446400000000] 31) ∧ s_ = y1.heap.size := ⟨_, _, rfl, rfl⟩
  rw [← ex3, ← es_]
  have hbx : Below y1.heap.size y1 x3 := by rw [ex3]; exact below_alloc1 _ _ 
  have g_S : w.heap.size ≤ s_ := by rw [es_]; exact hz_y1
  have BS := Lib.hid (show Blk x3 s_ 31 #[.int .i64 4089446400000000, .int .i64 4089446400000000] by rw [ex3, es_]; exact blk_new1_0 _ _ _ )
  have R4 := Lib.hid (R2.out.trans (hbx.mono hz_y1))
  have hz_x3 := R4.out.size
  clear hbx ex3 es_ R2 hz_y1
  have kS_0 : x3.cell? ⟨s_, 0, none⟩ = some (.int .i64 4089446400000000) := BS.out.cell 0
  have kS_1 : x3.cell? ⟨s_, 1, none⟩ = some (.int .i64 4089446400000000) := BS.out.cell 1
  go_wp2_with fail
  refine (CA.out _).mono ?_
  rintro e y5 ⟨rfl, hb⟩
  clear kS_0 kS_1
  have hbx : Below x3.heap.size x3 y5 := below_via (by go_grown) hb (by first | (simp; done) | (simp; omega))
  have BS := Lib.hid (BS.out.stays hbx)
  have R6 := Lib.hid (R4.out.trans (hbx.mono hz_x3))
  have hz_y5 := R6.out.size
  clear hb hbx  R4 hz_x3
  go_upto_region 4 with fail
  obtain ⟨x7, p_, ex7, ep_⟩ : ∃ x7 p_, x7 = y5.alloc (.cells #[.int .i64 4089446400000000, .int .i64 4089446400000004] 31) ∧ p_ = y5.heap.size := ⟨_, _, rfl, rfl⟩
  rw [← ex7, ← ep_]
  have hbx : Below y5.heap.size y5 x7 := by rw [ex7]; exact below_alloc1 _ _ 
  have o_S_P : s_ < p_ := by rw [ep_]; exact BS.out.lt
  have g_P : w.heap.size ≤ p_ := by rw [ep_]; exact hz_y5
  have BS := Lib.hid (BS.out.stays hbx)
  have BP := Lib.hid (show Blk x7 p_ 31 #[.int .i64 4089446400000000, .int .i64 4089446400000004] by rw [ex7, ep_]; exact blk_new1_0 _ _ _ )
  have R8 := Lib.hid (R6.out.trans (hbx.mono hz_y5))
  have hz_x7 := R8.out.size
  clear hbx ex7 ep_ R6 hz_y5
  have kS_0 : x7.cell? ⟨s_, 0, none⟩ = some (.int .i64 4089446400000000) := BS.out.cell 0
  have kS_1 : x7.cell? ⟨s_, 1, none⟩ = some (.int .i64 4089446400000000) := BS.out.cell 1
  have kP_0 : x7.cell? ⟨p_, 0, none⟩ = some (.int .i64 4089446400000000) := BP.out.cell 0
  have kP_1 : x7.cell? ⟨p_, 1, none⟩ = some (.int .i64 4089446400000004) := BP.out.cell 1
  go_wp2_with fail
  refine (holdsI 4089446400000000 4089446400000004 4089446400000004 _ (by decide) (by decide) (by decide)).mono ?_
  rintro e y9 ⟨rfl, hb⟩
  clear kS_0 kS_1 kP_0 kP_1
  have hbx : Below x7.heap.size x7 y9 := below_via (by go_grown) hb (by first | (simp; done) | (simp; omega))
  have BS := Lib.hid (BS.out.stays hbx)
  have BP := Lib.hid (BP.out.stays hbx)
  have R10 := Lib.hid (R8.out.trans (hbx.mono hz_x7))
  have hz_y9 := R10.out.size
  clear hb hbx  R8 hz_x7
  go_wp2
  go_ret
  exact ⟨rfl, R10.out⟩
end Go.Proofs.Ytfkckokaclkjnaa
