/- exchange.Check, exchange.At of a sample without error. -/
import Derived.Test.YtfkckokaclkjnaaRouG
import Derived.Test.YtfkckokaclkjnaaDrhG
namespace Go.Proofs.Ytfkckokaclkjnaa
open Go Go.RowKit

theorem el_zero (d : Nat) : eLo d 0 = d ∧ eHi d 0 = d := by
  unfold eLo eHi quoN
  constructor
  · simp
  · simp
set_option maxRecDepth 100000 in
set_option maxHeartbeats 4000000 in
theorem check_ok (t1 t2 t3 t4 : Int) (w : World) (h1 : tickOk t1) (h2 : tickOk t2) (h3 : tickOk t3) (h4 : tickOk t4) (h5 : t1 ≤ t4) (h6 : t2 ≤ t3) : Calls Try.prog 21 #[.agg #[.int .i64 t1, .int .i64 t2, .int .i64 t3, .int .i64 t4, .int .i64 0]] w fun e w' => e = .returned (.int .i64 0) ∧ Below w.heap.size w w' := by
  have T1 := decide_eq_true h1
  have T2 := decide_eq_true h2
  have T3 := decide_eq_true h3
  have T4 := decide_eq_true h4
  have c1 : decide (t4 < t1) = false := decide_eq_false (by omega)
  have c2 : decide (t3 < t2) = false := decide_eq_false (by omega)
  clear h1 h2 h3 h4 h5 h6
  go_enter Try.func21, Try.ntmps21
  go_upto_region 1 with fail
  obtain ⟨x1, s_, ex1, es_⟩ : ∃ x1 s_, x1 = w.alloc (.cells #[.int .i64 t1, .int .i64 t2, .int .i64 t3, .int .i64 t4, .int .i64 0] 48) ∧ s_ = w.heap.size := ⟨_, _, rfl, rfl⟩
  rw [← ex1, ← es_]
  have hbx : Below w.heap.size w x1 := by rw [ex1]; exact below_alloc1 _ _ 
  have g_S : w.heap.size ≤ s_ := by rw [es_]; exact Nat.le_refl _
  have BS := Lib.hid (show Blk x1 s_ 48 #[.int .i64 t1, .int .i64 t2, .int .i64 t3, .int .i64 t4, .int .i64 0] by rw [ex1, es_]; exact blk_new1_0 _ _ _ )
  have R2 := Lib.hid hbx
  have hz_x1 := R2.out.size
  clear hbx ex1 es_
  have kS_0 : x1.cell? ⟨s_, 0, none⟩ = some (.int .i64 t1) := BS.out.cell 0
  have kS_1 : x1.cell? ⟨s_, 1, none⟩ = some (.int .i64 t2) := BS.out.cell 1
  have kS_2 : x1.cell? ⟨s_, 2, none⟩ = some (.int .i64 t3) := BS.out.cell 2
  have kS_3 : x1.cell? ⟨s_, 3, none⟩ = some (.int .i64 t4) := BS.out.cell 3
  have kS_4 : x1.cell? ⟨s_, 4, none⟩ = some (.int .i64 0) := BS.out.cell 4
  go_wp2_with fail
  clear kS_0 kS_1 kS_2 kS_3 kS_4
  obtain ⟨x3, g_, ex3, eg_⟩ : ∃ x3 g_, x3 = x1.alloc (.cells #[.int .i64 t1, .int .i64 t2, .int .i64 t3, .int .i64 t4] 3) ∧ g_ = x1.heap.size := ⟨_, _, rfl, rfl⟩
  rw [← ex3, ← eg_]
  have hbx : Below x1.heap.size x1 x3 := by rw [ex3]; exact below_alloc1 _ _ 
  have o_S_G : s_ < g_ := by rw [eg_]; exact BS.out.lt
  have g_G : w.heap.size ≤ g_ := by rw [eg_]; exact hz_x1
  have BS := Lib.hid (BS.out.stays hbx)
  have BG := Lib.hid (show Blk x3 g_ 3 #[.int .i64 t1, .int .i64 t2, .int .i64 t3, .int .i64 t4] by rw [ex3, eg_]; exact blk_new1_0 _ _ _ )
  have R4 := Lib.hid (R2.out.trans (hbx.mono hz_x1))
  have hz_x3 := R4.out.size
  clear hbx ex3 eg_ R2 hz_x1
  have kG_0 : x3.cell? ⟨g_, 0, none⟩ = some (.int .i64 t1) := BG.out.cell 0
  have kG_1 : x3.cell? ⟨g_, 1, none⟩ = some (.int .i64 t2) := BG.out.cell 1
  have kG_2 : x3.cell? ⟨g_, 2, none⟩ = some (.int .i64 t3) := BG.out.cell 2
  have kG_3 : x3.cell? ⟨g_, 3, none⟩ = some (.int .i64 t4) := BG.out.cell 3
  go_loopw [15] (fun i wr => ∃ k : Nat, k ≤ 4 ∧ i = .int .i64 k ∧ wr = x3) (fun i _ => 4 - (intOf i).toNat)
  case atStart => exact ⟨0, by omega, rfl, rfl⟩
  case round =>
    obtain ⟨k, hk, rfl, hwr⟩ := hrel
    rw [hwr]
    clear hwr
    rcases (by omega : k = 0 ∨ k = 1 ∨ k = 2 ∨ k = 3 ∨ k = 4) with rfl | rfl | rfl | rfl | rfl
    · go_wp2_with fail
      refine (ticksV t1 _).mono ?_
      rintro e q_ ⟨rfl, rfl⟩
      rw [T1]
      go_wp2
      go_roundw
      case rel => exact ⟨1, by omega, by go_num, by first | rfl | trivial⟩
      case measure => simp [intOf]
    · go_wp2_with fail
      refine (ticksV t2 _).mono ?_
      rintro e q_ ⟨rfl, rfl⟩
      rw [T2]
      go_wp2
      go_roundw
      case rel => exact ⟨2, by omega, by go_num, by first | rfl | trivial⟩
      case measure => simp [intOf]
    · go_wp2_with fail
      refine (ticksV t3 _).mono ?_
      rintro e q_ ⟨rfl, rfl⟩
      rw [T3]
      go_wp2
      go_roundw
      case rel => exact ⟨3, by omega, by go_num, by first | rfl | trivial⟩
      case measure => simp [intOf]
    · go_wp2_with fail
      refine (ticksV t4 _).mono ?_
      rintro e q_ ⟨rfl, rfl⟩
      rw [T4]
      go_wp2
      go_roundw
      case rel => exact ⟨4, by omega, by go_num, by first | rfl | trivial⟩
      case measure => simp [intOf]
    · clear kG_0 kG_1 kG_2 kG_3
      have kS_0 : x3.cell? ⟨s_, 0, none⟩ = some (.int .i64 t1) := BS.out.cell 0
      have kS_1 : x3.cell? ⟨s_, 1, none⟩ = some (.int .i64 t2) := BS.out.cell 1
      have kS_2 : x3.cell? ⟨s_, 2, none⟩ = some (.int .i64 t3) := BS.out.cell 2
      have kS_3 : x3.cell? ⟨s_, 3, none⟩ = some (.int .i64 t4) := BS.out.cell 3
      have kS_4 : x3.cell? ⟨s_, 4, none⟩ = some (.int .i64 0) := BS.out.cell 4
      go_wp2
      go_ret
      exact ⟨rfl, R4.out⟩
set_option maxRecDepth 100000 in
set_option maxHeartbeats 4000000 in
theorem at_ok (t1 t2 t3 t4 : Int) (w : World) (h1 : t1 ≤ t4) (h2 : t2 ≤ t3) (h3 : 0 ≤ t1) (h4 : t4 < 1099511627776) (h5 : 0 ≤ t2) (h6 : t3 < 4503599627370496) (h7 : t3 ≤ t2 + (t4 - t1)) : Calls Try.prog 11 #[.agg #[.int .i64 t1, .int .i64 t2, .int .i64 t3, .int .i64 t4, .int .i64 0], .int .i64 0] w fun e w' => e = .returned (.tuple #[.agg #[.int .i64 t3, .int .i64 (t2 + (t4 - t1))], .int .i64 0]) ∧ Below w.heap.size w w' := by
  have CC := Lib.hid (fun w => check_ok t1 t2 t3 t4 w (by unfold tickOk; omega) (by unfold tickOk; omega) (by unfold tickOk; omega) (by unfold tickOk; omega) h1 h2)
  obtain ⟨d, hd⟩ : ∃ d : Nat, t4 - t1 = (d : Int) := ⟨(t4 - t1).toNat, by omega⟩
  have CE := Lib.hid (fun w => elapsed_ok15 d 0 w (by omega) (by decide))
  rw [(el_zero d).1, (el_zero d).2, show ((0 : Nat) : Int) = 0 from rfl] at CE
  have w0 : t3 - 0 = t3 := by omega
  have w1 : t2 + 0 = t2 := by omega
  have w4 : IntKind.i64.wrap (t4 - t1) = (d : Int) := by rw [hd]; exact IntWalk.i64_in _ (by omega)
  obtain ⟨u, hu⟩ : ∃ u, t2 + (d : Int) = u := ⟨_, rfl⟩
  have V3 : decide (tickOk t3) = true := decide_eq_true (by unfold tickOk; omega)
  have VU : decide (tickOk u) = true := decide_eq_true (by unfold tickOk; omega)
  have c1 : decide (t3 > u) = false := decide_eq_false (by omega)
  have c2 : decide (u < t3) = false := decide_eq_false (by omega)
  have b1 : -1152921504606846976 ≤ u ∧ u ≤ 1152921504606846976 := by omega
  obtain ⟨b1, b2⟩ := b1
  rw [show t2 + (t4 - t1) = u by omega]
  have b3 : 0 ≤ t3 ∧ t3 < 4503599627370496 := ⟨by omega, by omega⟩
  obtain ⟨b3, b4⟩ := b3
  have b5 : d < 1099511627776 := by omega
  have b6 : 0 ≤ t2 ∧ t2 < 4503599627370496 := ⟨by omega, by omega⟩
  obtain ⟨b6, b7⟩ := b6
  clear h1 h2 h3 h4 h5 h6 h7
  go_enter Try.func11, Try.ntmps11
  go_upto_region 1 with fail
  obtain ⟨x1, s_, h_, ex1, es_, eh_⟩ : ∃ x1 s_ h_, x1 = (w.alloc (.cells #[.int .i64 t1, .int .i64 t2, .int .i64 t3, .int .i64 t4, .int .i64 0] 48)).alloc (.cells #[.int .i64 0, .int .i64 0] 31) ∧ s_ = w.heap.size ∧ h_ = w.heap.size + 1 := ⟨_, _, _, rfl, rfl, rfl⟩
  rw [← ex1, ← eh_, ← es_]
  have hbx : Below w.heap.size w x1 := by rw [ex1]; exact below_alloc2 _ _ _ 
  have o_S_H : s_ < h_ := by omega
  have g_S : w.heap.size ≤ s_ := by rw [es_]; exact Nat.le_refl _
  have BS := Lib.hid (show Blk x1 s_ 48 #[.int .i64 t1, .int .i64 t2, .int .i64 t3, .int .i64 t4, .int .i64 0] by rw [ex1, es_]; exact blk_new2_0 _ _ _ _ _ )
  have BH := Lib.hid (show Blk x1 h_ 31 #[.int .i64 0, .int .i64 0] by rw [ex1, eh_]; exact blk_new2_1 _ _ _ _ _ )
  have R2 := Lib.hid hbx
  have hz_x1 := R2.out.size
  clear hbx ex1 es_ eh_
  have kS_0 : x1.cell? ⟨s_, 0, none⟩ = some (.int .i64 t1) := BS.out.cell 0
  have kS_1 : x1.cell? ⟨s_, 1, none⟩ = some (.int .i64 t2) := BS.out.cell 1
  have kS_2 : x1.cell? ⟨s_, 2, none⟩ = some (.int .i64 t3) := BS.out.cell 2
  have kS_3 : x1.cell? ⟨s_, 3, none⟩ = some (.int .i64 t4) := BS.out.cell 3
  have kS_4 : x1.cell? ⟨s_, 4, none⟩ = some (.int .i64 0) := BS.out.cell 4
  go_wp2_with fail
  refine (CC.out _).mono ?_
  rintro e y3 ⟨rfl, hb⟩
  clear kS_0 kS_1 kS_2 kS_3 kS_4
  have hbx : Below x1.heap.size x1 y3 := below_via (by go_grown) hb (by first | (simp; done) | (simp; omega))
  have BS := Lib.hid (BS.out.stays hbx)
  have BH := Lib.hid (BH.out.stays hbx)
  have R4 := Lib.hid (R2.out.trans (hbx.mono hz_x1))
  have hz_y3 := R4.out.size
  clear hb hbx  R2 hz_x1
  have kS_0 : y3.cell? ⟨s_, 0, none⟩ = some (.int .i64 t1) := BS.out.cell 0
  have kS_1 : y3.cell? ⟨s_, 1, none⟩ = some (.int .i64 t2) := BS.out.cell 1
  have kS_2 : y3.cell? ⟨s_, 2, none⟩ = some (.int .i64 t3) := BS.out.cell 2
  have kS_3 : y3.cell? ⟨s_, 3, none⟩ = some (.int .i64 t4) := BS.out.cell 3
  have kS_4 : y3.cell? ⟨s_, 4, none⟩ = some (.int .i64 0) := BS.out.cell 4
  go_wp2_with fail
  refine (CE.out _).mono ?_
  rintro e y5 ⟨rfl, hb⟩
  clear kS_0 kS_1 kS_2 kS_3 kS_4
  have hbx : Below y3.heap.size y3 y5 := below_via (by go_grown) hb (by first | (simp; done) | (simp; omega))
  have BS := Lib.hid (BS.out.stays hbx)
  have BH := Lib.hid (BH.out.stays hbx)
  have R6 := Lib.hid (R4.out.trans (hbx.mono hz_y3))
  have hz_y5 := R6.out.size
  clear hb hbx  R4 hz_y3
  go_upto_region 5 with fail
  obtain ⟨x7, p_, ex7, ep_⟩ : ∃ x7 p_, x7 = y5.alloc (.cells #[.int .i64 (d : Int), .int .i64 (d : Int)] 31) ∧ p_ = y5.heap.size := ⟨_, _, rfl, rfl⟩
  rw [← ex7, ← ep_]
  have hbx : Below y5.heap.size y5 x7 := by rw [ex7]; exact below_alloc1 _ _ 
  have o_S_P : s_ < p_ := by rw [ep_]; exact BS.out.lt
  have o_H_P : h_ < p_ := by rw [ep_]; exact BH.out.lt
  have g_P : w.heap.size ≤ p_ := by rw [ep_]; exact hz_y5
  have BS := Lib.hid (BS.out.stays hbx)
  have BH := Lib.hid (BH.out.stays hbx)
  have BP := Lib.hid (show Blk x7 p_ 31 #[.int .i64 (d : Int), .int .i64 (d : Int)] by rw [ex7, ep_]; exact blk_new1_0 _ _ _ )
  have R8 := Lib.hid (R6.out.trans (hbx.mono hz_y5))
  have hz_x7 := R8.out.size
  clear hbx ex7 ep_ R6 hz_y5
  have kS_0 : x7.cell? ⟨s_, 0, none⟩ = some (.int .i64 t1) := BS.out.cell 0
  have kS_1 : x7.cell? ⟨s_, 1, none⟩ = some (.int .i64 t2) := BS.out.cell 1
  have kS_2 : x7.cell? ⟨s_, 2, none⟩ = some (.int .i64 t3) := BS.out.cell 2
  have kS_3 : x7.cell? ⟨s_, 3, none⟩ = some (.int .i64 t4) := BS.out.cell 3
  have kS_4 : x7.cell? ⟨s_, 4, none⟩ = some (.int .i64 0) := BS.out.cell 4
  have kP_0 : x7.cell? ⟨p_, 0, none⟩ = some (.int .i64 (d : Int)) := BP.out.cell 0
  have kP_1 : x7.cell? ⟨p_, 1, none⟩ = some (.int .i64 (d : Int)) := BP.out.cell 1
  go_upto_region 6 with fail
  clear kS_0 kS_1 kS_2 kS_3 kS_4 kP_0 kP_1
  obtain ⟨x9, o_, ex9, eo_⟩ : ∃ x9 o_, x9 = x7.alloc (.cells #[.int .i64 t3, .int .i64 u] 31) ∧ o_ = x7.heap.size := ⟨_, _, rfl, rfl⟩
  rw [← ex9, ← eo_]
  have hbx : Below x7.heap.size x7 x9 := by rw [ex9]; exact below_alloc1 _ _ 
  have o_S_O : s_ < o_ := by rw [eo_]; exact BS.out.lt
  have o_H_O : h_ < o_ := by rw [eo_]; exact BH.out.lt
  have o_P_O : p_ < o_ := by rw [eo_]; exact BP.out.lt
  have g_O : w.heap.size ≤ o_ := by rw [eo_]; exact hz_x7
  have BS := Lib.hid (BS.out.stays hbx)
  have BH := Lib.hid (BH.out.stays hbx)
  have BP := Lib.hid (BP.out.stays hbx)
  have BO := Lib.hid (show Blk x9 o_ 31 #[.int .i64 t3, .int .i64 u] by rw [ex9, eo_]; exact blk_new1_0 _ _ _ )
  have R10 := Lib.hid (R8.out.trans (hbx.mono hz_x7))
  have hz_x9 := R10.out.size
  clear hbx ex9 eo_ R8 hz_x7
  have kO_0 : x9.cell? ⟨o_, 0, none⟩ = some (.int .i64 t3) := BO.out.cell 0
  have kO_1 : x9.cell? ⟨o_, 1, none⟩ = some (.int .i64 u) := BO.out.cell 1
  go_wp2_with fail
  refine (ticksV t3 _).mono ?_
  rintro e q_ ⟨rfl, rfl⟩
  rw [V3]
  go_wp2_with fail
  refine (ticksV u _).mono ?_
  rintro e q_ ⟨rfl, rfl⟩
  rw [VU]
  have cH := BH.out.cell
  have zH := BH.out.frozen
  have n1 : ¬ o_ = h_ := by omega
  have n2 : ¬ h_ = o_ := by omega
  go_wp2
  clear zH cH
  clear kO_0 kO_1
  generalize hwd : World.setCell _ ⟨h_, 1, none⟩ _ = wd
  have hwd2 : stores x9 h_ [.int .i64 t3, .int .i64 u] 0 = wd := hwd
  have D1 : Blk wd h_ 31 #[.int .i64 t3, .int .i64 u] := by rw [← hwd2]; exact BH.out.filled _ rfl
  have RD : Below w.heap.size w wd := by rw [← hwd2]; exact Below.stores (by omega) _ _ _ R10.out
  clear hwd hwd2
  have d1_0 : wd.cell? ⟨h_, 0, none⟩ = some (.int .i64 t3) := D1.cell 0
  have d1_1 : wd.cell? ⟨h_, 1, none⟩ = some (.int .i64 u) := D1.cell 1
  try go_wp2_with fail
  refine bodyPost_ret (v := .tuple #[.agg #[.int .i64 t3, .int .i64 u], .int .i64 0]) (by simp [results, Try.results11, go_sem, *]) rfl ⟨rfl, RD⟩
end Go.Proofs.Ytfkckokaclkjnaa
