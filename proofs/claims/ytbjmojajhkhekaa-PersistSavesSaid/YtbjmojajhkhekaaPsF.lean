/- The walk of PersistSaves. -/
import Derived.Test.YtbjmojajhkhekaaPsE
namespace Go.Proofs.Ytbjmojajhkhekaa
open Go.RowKit

set_option maxRecDepth 100000 in
set_option maxHeartbeats 4000000 in
theorem psaves_ok (cn at_ lo hi pp le re : Int) (b_cn : -9223372036854775808 ≤ cn ∧ cn ≤ 9223372036854775807) (b_at_ : -9223372036854775808 ≤ at_ ∧ at_ ≤ 9223372036854775807) (b_lo : -9223372036854775808 ≤ lo ∧ lo ≤ 9223372036854775807) (b_hi : -9223372036854775808 ≤ hi ∧ hi ≤ 9223372036854775807) (b_pp : -9223372036854775808 ≤ pp ∧ pp ≤ 9223372036854775807) (b_le : -9223372036854775808 ≤ le ∧ le ≤ 9223372036854775807) (b_re : -9223372036854775808 ≤ re ∧ re ≤ 9223372036854775807) (w : World) (h0 : svE cn at_ lo hi pp le re = 0) :
    Calls Try.prog 4 #[.agg #[.int .i64 cn, .int .i64 at_, .int .i64 lo, .int .i64 hi, .int .i64 pp, .int .i64 le, .int .i64 re]] w fun e w' => e = .returned (.bool true) ∧ Below w.heap.size w w' := by
  have H0 := Lib.hid h0
  clear h0
  go_enter Try.func4, Try.ntmps4
  go_upto_region 1 with fail
  obtain ⟨x1, s_, ex1, es_⟩ : ∃ x1 s_, x1 = w.alloc (.cells #[.int .i64 cn, .int .i64 at_, .int .i64 lo, .int .i64 hi, .int .i64 pp, .int .i64 le, .int .i64 re] 41) ∧ s_ = w.heap.size := ⟨_, _, rfl, rfl⟩
  rw [← ex1, ← es_]
  have hbx : Below w.heap.size w x1 := by rw [ex1]; exact below_alloc1 _ _ 
  have g_S : w.heap.size ≤ s_ := by rw [es_]; exact Nat.le_refl _
  have BS := Lib.hid (show Blk x1 s_ 41 #[.int .i64 cn, .int .i64 at_, .int .i64 lo, .int .i64 hi, .int .i64 pp, .int .i64 le, .int .i64 re] by rw [ex1, es_]; exact blk_new1_0 _ _ _ )
  have R2 := Lib.hid hbx
  have hz_x1 := R2.out.size
  clear hbx ex1 es_
  have kS_0 : x1.cell? ⟨s_, 0, none⟩ = some (.int .i64 cn) := BS.out.cell 0
  have kS_1 : x1.cell? ⟨s_, 1, none⟩ = some (.int .i64 at_) := BS.out.cell 1
  have kS_2 : x1.cell? ⟨s_, 2, none⟩ = some (.int .i64 lo) := BS.out.cell 2
  have kS_3 : x1.cell? ⟨s_, 3, none⟩ = some (.int .i64 hi) := BS.out.cell 3
  have kS_4 : x1.cell? ⟨s_, 4, none⟩ = some (.int .i64 pp) := BS.out.cell 4
  have kS_5 : x1.cell? ⟨s_, 5, none⟩ = some (.int .i64 le) := BS.out.cell 5
  have kS_6 : x1.cell? ⟨s_, 6, none⟩ = some (.int .i64 re) := BS.out.cell 6
  go_wp2_with fail
  refine (save_ok cn at_ lo hi pp le re _ H0.out).mono ?_
  rintro e y3 ⟨A1, c1, rfl, hv, hb⟩
  clear kS_0 kS_1 kS_2 kS_3 kS_4 kS_5 kS_6
  have hbx : Below x1.heap.size x1 y3 := below_via (by go_grown) hb (by first | (simp; done) | (simp; omega))
  have BS := Lib.hid (BS.out.stays hbx)
  have V := Lib.hid hv
  have R4 := Lib.hid (R2.out.trans (hbx.mono hz_x1))
  have hz_y3 := R4.out.size
  clear hb hbx hv R2 hz_x1
  have v1 := V.out.le
  have v2 := V.out.cap
  have kS_0 : y3.cell? ⟨s_, 0, none⟩ = some (.int .i64 cn) := BS.out.cell 0
  have kS_1 : y3.cell? ⟨s_, 1, none⟩ = some (.int .i64 at_) := BS.out.cell 1
  have kS_2 : y3.cell? ⟨s_, 2, none⟩ = some (.int .i64 lo) := BS.out.cell 2
  have kS_3 : y3.cell? ⟨s_, 3, none⟩ = some (.int .i64 hi) := BS.out.cell 3
  have kS_4 : y3.cell? ⟨s_, 4, none⟩ = some (.int .i64 pp) := BS.out.cell 4
  have kS_5 : y3.cell? ⟨s_, 5, none⟩ = some (.int .i64 le) := BS.out.cell 5
  have kS_6 : y3.cell? ⟨s_, 6, none⟩ = some (.int .i64 re) := BS.out.cell 6
  go_wp2_with fail
  refine (refSave_ok cn at_ lo hi pp le re _ H0.out).mono ?_
  rintro e y5 ⟨A2, c2, rfl, hv, hb⟩
  clear kS_0 kS_1 kS_2 kS_3 kS_4 kS_5 kS_6
  have hbx : Below y3.heap.size y3 y5 := below_via (by go_grown) hb (by first | (simp; done) | (simp; omega))
  have BS := Lib.hid (BS.out.stays hbx)
  have V := Lib.hid (V.out.stays hbx)
  have U := Lib.hid hv
  have R6 := Lib.hid (R4.out.trans (hbx.mono hz_y3))
  have hz_y5 := R6.out.size
  clear hb hbx hv R4 hz_y3
  have v3 := U.out.le
  have v4 := U.out.cap
  go_wp2_with fail
  refine (load_saved cn at_ lo hi pp le re b_cn b_at_ b_lo b_hi b_pp b_le b_re H0.out _ _ _ V.out).mono ?_
  rintro e y7 ⟨rfl, hb⟩
  have hbx : Below y5.heap.size y5 y7 := below_via (by go_grown) hb (by first | (simp; done) | (simp; omega))
  have BS := Lib.hid (BS.out.stays hbx)
  have V := Lib.hid (V.out.stays hbx)
  have U := Lib.hid (U.out.stays hbx)
  have R8 := Lib.hid (R6.out.trans (hbx.mono hz_y5))
  have hz_y7 := R8.out.size
  clear hb hbx  R6 hz_y5
  go_upto_region 4 with fail
  obtain ⟨x9, t_, ex9, et_⟩ : ∃ x9 t_, x9 = y7.alloc (.cells #[.int .i64 cn, .int .i64 at_, .int .i64 lo, .int .i64 hi, .int .i64 pp, .int .i64 le, .int .i64 re] 41) ∧ t_ = y7.heap.size := ⟨_, _, rfl, rfl⟩
  rw [← ex9, ← et_]
  have hbx : Below y7.heap.size y7 x9 := by rw [ex9]; exact below_alloc1 _ _ 
  have o_S_T : s_ < t_ := by rw [et_]; exact BS.out.lt
  have g_T : w.heap.size ≤ t_ := by rw [et_]; exact hz_y7
  have BS := Lib.hid (BS.out.stays hbx)
  have V := Lib.hid (V.out.stays hbx)
  have U := Lib.hid (U.out.stays hbx)
  have BT := Lib.hid (show Blk x9 t_ 41 #[.int .i64 cn, .int .i64 at_, .int .i64 lo, .int .i64 hi, .int .i64 pp, .int .i64 le, .int .i64 re] by rw [ex9, et_]; exact blk_new1_0 _ _ _ )
  have R10 := Lib.hid (R8.out.trans (hbx.mono hz_y7))
  have hz_x9 := R10.out.size
  clear hbx ex9 et_ R8 hz_y7
  go_wp2_with fail
  refine (psKnown _).mono ?_
  rintro e y11 ⟨rfl, hb⟩
  have hbx : Below x9.heap.size x9 y11 := below_via (by go_grown) hb (by first | (simp; done) | (simp; omega))
  have BS := Lib.hid (BS.out.stays hbx)
  have BT := Lib.hid (BT.out.stays hbx)
  have V := Lib.hid (V.out.stays hbx)
  have U := Lib.hid (U.out.stays hbx)
  have R12 := Lib.hid (R10.out.trans (hbx.mono hz_x9))
  have hz_y11 := R12.out.size
  clear hb hbx  R10 hz_x9
  have kS_0 : y11.cell? ⟨s_, 0, none⟩ = some (.int .i64 cn) := BS.out.cell 0
  have kS_1 : y11.cell? ⟨s_, 1, none⟩ = some (.int .i64 at_) := BS.out.cell 1
  have kS_2 : y11.cell? ⟨s_, 2, none⟩ = some (.int .i64 lo) := BS.out.cell 2
  have kS_3 : y11.cell? ⟨s_, 3, none⟩ = some (.int .i64 hi) := BS.out.cell 3
  have kS_4 : y11.cell? ⟨s_, 4, none⟩ = some (.int .i64 pp) := BS.out.cell 4
  have kS_5 : y11.cell? ⟨s_, 5, none⟩ = some (.int .i64 le) := BS.out.cell 5
  have kS_6 : y11.cell? ⟨s_, 6, none⟩ = some (.int .i64 re) := BS.out.cell 6
  have kT_0 : y11.cell? ⟨t_, 0, none⟩ = some (.int .i64 cn) := BT.out.cell 0
  have kT_1 : y11.cell? ⟨t_, 1, none⟩ = some (.int .i64 at_) := BT.out.cell 1
  have kT_2 : y11.cell? ⟨t_, 2, none⟩ = some (.int .i64 lo) := BT.out.cell 2
  have kT_3 : y11.cell? ⟨t_, 3, none⟩ = some (.int .i64 hi) := BT.out.cell 3
  have kT_4 : y11.cell? ⟨t_, 4, none⟩ = some (.int .i64 pp) := BT.out.cell 4
  have kT_5 : y11.cell? ⟨t_, 5, none⟩ = some (.int .i64 le) := BT.out.cell 5
  have kT_6 : y11.cell? ⟨t_, 6, none⟩ = some (.int .i64 re) := BT.out.cell 6
  go_wp2_with fail
  refine (refSame_true V.out U.out rfl).mono ?_
  rintro e q_ ⟨rfl, rfl⟩
  go_wp2
  go_ret
  exact ⟨rfl, R12.out⟩
set_option maxRecDepth 100000 in
set_option maxHeartbeats 4000000 in
theorem psaves_bad (cn at_ lo hi pp le re : Int) (b_cn : -9223372036854775808 ≤ cn ∧ cn ≤ 9223372036854775807) (b_at_ : -9223372036854775808 ≤ at_ ∧ at_ ≤ 9223372036854775807) (b_lo : -9223372036854775808 ≤ lo ∧ lo ≤ 9223372036854775807) (b_hi : -9223372036854775808 ≤ hi ∧ hi ≤ 9223372036854775807) (b_pp : -9223372036854775808 ≤ pp ∧ pp ≤ 9223372036854775807) (b_le : -9223372036854775808 ≤ le ∧ le ≤ 9223372036854775807) (b_re : -9223372036854775808 ≤ re ∧ re ≤ 9223372036854775807) (w : World) (h0 : ¬ svE cn at_ lo hi pp le re = 0) :
    Calls Try.prog 4 #[.agg #[.int .i64 cn, .int .i64 at_, .int .i64 lo, .int .i64 hi, .int .i64 pp, .int .i64 le, .int .i64 re]] w fun e w' => e = .returned (.bool true) ∧ Below w.heap.size w w' := by
  have H0 := Lib.hid h0
  obtain ⟨er, her⟩ : ∃ er, svE cn at_ lo hi pp le re = er := ⟨_, rfl⟩
  have HE := Lib.hid her
  have hne : (er != 0) = true := by rw [← her]; simpa using h0
  clear her h0
  go_enter Try.func4, Try.ntmps4
  go_upto_region 1 with fail
  obtain ⟨x1, s_, ex1, es_⟩ : ∃ x1 s_, x1 = w.alloc (.cells #[.int .i64 cn, .int .i64 at_, .int .i64 lo, .int .i64 hi, .int .i64 pp, .int .i64 le, .int .i64 re] 41) ∧ s_ = w.heap.size := ⟨_, _, rfl, rfl⟩
  rw [← ex1, ← es_]
  have hbx : Below w.heap.size w x1 := by rw [ex1]; exact below_alloc1 _ _ 
  have g_S : w.heap.size ≤ s_ := by rw [es_]; exact Nat.le_refl _
  have BS := Lib.hid (show Blk x1 s_ 41 #[.int .i64 cn, .int .i64 at_, .int .i64 lo, .int .i64 hi, .int .i64 pp, .int .i64 le, .int .i64 re] by rw [ex1, es_]; exact blk_new1_0 _ _ _ )
  have R2 := Lib.hid hbx
  have hz_x1 := R2.out.size
  clear hbx ex1 es_
  have kS_0 : x1.cell? ⟨s_, 0, none⟩ = some (.int .i64 cn) := BS.out.cell 0
  have kS_1 : x1.cell? ⟨s_, 1, none⟩ = some (.int .i64 at_) := BS.out.cell 1
  have kS_2 : x1.cell? ⟨s_, 2, none⟩ = some (.int .i64 lo) := BS.out.cell 2
  have kS_3 : x1.cell? ⟨s_, 3, none⟩ = some (.int .i64 hi) := BS.out.cell 3
  have kS_4 : x1.cell? ⟨s_, 4, none⟩ = some (.int .i64 pp) := BS.out.cell 4
  have kS_5 : x1.cell? ⟨s_, 5, none⟩ = some (.int .i64 le) := BS.out.cell 5
  have kS_6 : x1.cell? ⟨s_, 6, none⟩ = some (.int .i64 re) := BS.out.cell 6
  go_wp2_with fail
  refine (save_bad cn at_ lo hi pp le re _ H0.out).mono ?_
  rintro e y3 ⟨rfl, hb⟩
  clear kS_0 kS_1 kS_2 kS_3 kS_4 kS_5 kS_6
  have hbx : Below x1.heap.size x1 y3 := below_via (by go_grown) hb (by first | (simp; done) | (simp; omega))
  have BS := Lib.hid (BS.out.stays hbx)
  have R4 := Lib.hid (R2.out.trans (hbx.mono hz_x1))
  have hz_y3 := R4.out.size
  clear hb hbx  R2 hz_x1
  rw [HE.out]
  have kS_0 : y3.cell? ⟨s_, 0, none⟩ = some (.int .i64 cn) := BS.out.cell 0
  have kS_1 : y3.cell? ⟨s_, 1, none⟩ = some (.int .i64 at_) := BS.out.cell 1
  have kS_2 : y3.cell? ⟨s_, 2, none⟩ = some (.int .i64 lo) := BS.out.cell 2
  have kS_3 : y3.cell? ⟨s_, 3, none⟩ = some (.int .i64 hi) := BS.out.cell 3
  have kS_4 : y3.cell? ⟨s_, 4, none⟩ = some (.int .i64 pp) := BS.out.cell 4
  have kS_5 : y3.cell? ⟨s_, 5, none⟩ = some (.int .i64 le) := BS.out.cell 5
  have kS_6 : y3.cell? ⟨s_, 6, none⟩ = some (.int .i64 re) := BS.out.cell 6
  go_wp2_with fail
  refine (refSave_bad cn at_ lo hi pp le re _ H0.out).mono ?_
  rintro e y5 ⟨rfl, hb⟩
  clear kS_0 kS_1 kS_2 kS_3 kS_4 kS_5 kS_6
  have hbx : Below y3.heap.size y3 y5 := below_via (by go_grown) hb (by first | (simp; done) | (simp; omega))
  have BS := Lib.hid (BS.out.stays hbx)
  have R6 := Lib.hid (R4.out.trans (hbx.mono hz_y3))
  have hz_y5 := R6.out.size
  clear hb hbx  R4 hz_y3
  rw [HE.out]
  go_wp2_with fail
  refine (load_short none 0 0 [] _ (Bytes.nil _ _ _ (by decide)) (by decide)).mono ?_
  rintro e y7 ⟨rfl, hb⟩
  have hbx : Below y5.heap.size y5 y7 := below_via (by go_grown) hb (by first | (simp; done) | (simp; omega))
  have BS := Lib.hid (BS.out.stays hbx)
  have R8 := Lib.hid (R6.out.trans (hbx.mono hz_y5))
  have hz_y7 := R8.out.size
  clear hb hbx  R6 hz_y5
  go_upto_region 4 with fail
  obtain ⟨x9, t_, ex9, et_⟩ : ∃ x9 t_, x9 = y7.alloc (.cells #[.int .i64 0, .int .i64 0, .int .i64 0, .int .i64 0, .int .i64 0, .int .i64 0, .int .i64 0] 41) ∧ t_ = y7.heap.size := ⟨_, _, rfl, rfl⟩
  rw [← ex9, ← et_]
  have hbx : Below y7.heap.size y7 x9 := by rw [ex9]; exact below_alloc1 _ _ 
  have o_S_T : s_ < t_ := by rw [et_]; exact BS.out.lt
  have g_T : w.heap.size ≤ t_ := by rw [et_]; exact hz_y7
  have BS := Lib.hid (BS.out.stays hbx)
  have BT := Lib.hid (show Blk x9 t_ 41 #[.int .i64 0, .int .i64 0, .int .i64 0, .int .i64 0, .int .i64 0, .int .i64 0, .int .i64 0] by rw [ex9, et_]; exact blk_new1_0 _ _ _ )
  have R10 := Lib.hid (R8.out.trans (hbx.mono hz_y7))
  have hz_x9 := R10.out.size
  clear hbx ex9 et_ R8 hz_y7
  go_wp2_with fail
  refine (psKnown _).mono ?_
  rintro e y11 ⟨rfl, hb⟩
  have hbx : Below x9.heap.size x9 y11 := below_via (by go_grown) hb (by first | (simp; done) | (simp; omega))
  have BS := Lib.hid (BS.out.stays hbx)
  have BT := Lib.hid (BT.out.stays hbx)
  have R12 := Lib.hid (R10.out.trans (hbx.mono hz_x9))
  have hz_y11 := R12.out.size
  clear hb hbx  R10 hz_x9
  go_wp2_with fail
  refine (refSame_true (Bytes.nil _ none 0 (by decide)) (Bytes.nil _ none 0 (by decide)) rfl).mono ?_
  rintro e q_ ⟨rfl, rfl⟩
  go_wp2
  go_ret
  exact ⟨rfl, R12.out⟩
theorem persistSaves_walk (a0 a1 a2 a3 a4 a5 a6 : Int) (w0 : (Lit.int .i64 a0).wf = true) (w1 : (Lit.int .i64 a1).wf = true) (w2 : (Lit.int .i64 a2).wf = true) (w3 : (Lit.int .i64 a3).wf = true) (w4 : (Lit.int .i64 a4).wf = true) (w5 : (Lit.int .i64 a5).wf = true) (w6 : (Lit.int .i64 a6).wf = true) (w : World) :
    Calls Try.prog 4 #[.agg #[.int .i64 a0, .int .i64 a1, .int .i64 a2, .int .i64 a3, .int .i64 a4, .int .i64 a5, .int .i64 a6]] w fun e w' => e = .returned (.bool true) ∧ Below w.heap.size w w' := by
  have b0 := bounds_i64 w0
  have b1 := bounds_i64 w1
  have b2 := bounds_i64 w2
  have b3 := bounds_i64 w3
  have b4 := bounds_i64 w4
  have b5 := bounds_i64 w5
  have b6 := bounds_i64 w6
  by_cases h0 : svE a0 a1 a2 a3 a4 a5 a6 = 0
  · exact psaves_ok a0 a1 a2 a3 a4 a5 a6 ⟨by omega, by omega⟩ ⟨by omega, by omega⟩ ⟨by omega, by omega⟩ ⟨by omega, by omega⟩ ⟨by omega, by omega⟩ ⟨by omega, by omega⟩ ⟨by omega, by omega⟩ w h0
  · exact psaves_bad a0 a1 a2 a3 a4 a5 a6 ⟨by omega, by omega⟩ ⟨by omega, by omega⟩ ⟨by omega, by omega⟩ ⟨by omega, by omega⟩ ⟨by omega, by omega⟩ ⟨by omega, by omega⟩ ⟨by omega, by omega⟩ w h0
end Go.Proofs.Ytbjmojajhkhekaa
