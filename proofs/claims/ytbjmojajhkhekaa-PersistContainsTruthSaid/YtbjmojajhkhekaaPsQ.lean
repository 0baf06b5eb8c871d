/- Elapsed, Project, Now, Width, Holds of the reference. -/
import Derived.Test.YtbjmojajhkhekaaPsP
namespace Go.Proofs.Ytbjmojajhkhekaa
open Go.RowKit

def elLo (d pp : Int) : Int := d * 1000000000 / (1000000000 + pp)
def elHi (d pp : Int) : Int := rup (d * 1000000000) (1000000000 - pp)
theorem el_bounds (d pp : Int) (d0 : 0 ≤ d) (d1 : d < 131072) (p0 : 0 ≤ pp) (p1 : pp ≤ 1000) : 0 ≤ elLo d pp ∧ elLo d pp ≤ d ∧ d ≤ elHi d pp ∧ elHi d pp ≤ 1000000000000000 := by
  have m1 : d * 1000000000 = 1000000000 * d := Int.mul_comm _ _
  refine ⟨Int.ediv_nonneg (by omega) (by omega), ?_, ?_, ?_⟩
  · unfold elLo
    have h : d * 1000000000 ≤ d * (1000000000 + pp) := Int.mul_le_mul_of_nonneg_left (by omega) d0
    have h2 := Int.ediv_le_ediv (c := 1000000000 + pp) (by omega) h
    rwa [Int.mul_ediv_cancel _ (by omega)] at h2
  · have h : d * (1000000000 - pp) ≤ d * 1000000000 := Int.mul_le_mul_of_nonneg_left (by omega) d0
    have h2 := Int.ediv_le_ediv (c := 1000000000 - pp) (by omega) h
    rw [Int.mul_ediv_cancel _ (by omega)] at h2
    unfold elHi rup
    split <;> omega
  · have g1 : d * 1000000000 / (1000000000 - pp) ≤ d * 1000000000 := Int.ediv_le_self _ (by omega)
    unfold elHi rup
    split <;> omega
set_option maxRecDepth 100000 in
set_option maxHeartbeats 4000000 in
theorem elapsed_ok (d pp : Int) (w : World) (d0 : 0 ≤ d) (d1 : d < 131072) (p0 : 0 ≤ pp) (p1 : pp ≤ 1000) : Calls Try.prog 95 #[.int .i64 d, .int .i64 pp] w fun e w' => e = .returned (.tuple #[.agg #[.int .i64 (elLo d pp), .int .i64 (elHi d pp)], .int .i64 0]) ∧ Below w.heap.size w w' := by
  have D := Lib.hid (And.intro d0 (And.intro d1 (And.intro p0 p1)))
  have E1 := Lib.hid (show d * 1000000000 / (1000000000 + pp) = elLo d pp from rfl)
  have E2 := Lib.hid (show rup (d * 1000000000) (1000000000 - pp) = elHi d pp from rfl)
  go_enter Try.func95, Try.ntmps95
  go_upto_region 1 with fail
  obtain ⟨x1, h_, ex1, eh_⟩ : ∃ x1 h_, x1 = w.alloc (.cells #[.int .i64 0, .int .i64 0] 37) ∧ h_ = w.heap.size := ⟨_, _, rfl, rfl⟩
  rw [← ex1, ← eh_]
  have hbx : Below w.heap.size w x1 := by rw [ex1]; exact below_alloc1 _ _ 
  have g_H : w.heap.size ≤ h_ := by rw [eh_]; exact Nat.le_refl _
  have BH := Lib.hid (show Blk x1 h_ 37 #[.int .i64 0, .int .i64 0] by rw [ex1, eh_]; exact blk_new1_0 _ _ _ )
  have R2 := Lib.hid hbx
  have hz_x1 := R2.out.size
  clear hbx ex1 eh_
  go_wp2_with fail
  refine (in_yes d pp _ d0 d1 p0 (by omega)).mono ?_
  rintro e q_ ⟨rfl, rfl⟩
  go_wp2_with fail
  refine (ratio_down d 1000000000 (1000000000 + pp) _ d0 (by omega) (by omega) (by decide) (by omega)).mono ?_
  rintro e q_ ⟨rfl, rfl⟩
  rw [E1.out]
  go_wp2_with fail
  refine (ratio_up d 1000000000 (1000000000 - pp) _ d0 (by omega) (by omega) (by decide) (by omega)).mono ?_
  rintro e q_ ⟨rfl, rfl⟩
  rw [E2.out]
  have cH := BH.out.cell
  have zH := BH.out.frozen
  go_wp2
  clear zH cH
  generalize hwd : World.setCell _ ⟨h_, 1, none⟩ _ = wd
  have hwd2 : stores x1 h_ [.int .i64 (elLo d pp), .int .i64 (elHi d pp)] 0 = wd := hwd
  have D1 : Blk wd h_ 37 #[.int .i64 (elLo d pp), .int .i64 (elHi d pp)] := by rw [← hwd2]; exact BH.out.filled _ rfl
  have RD : Below w.heap.size w wd := by rw [← hwd2]; exact Below.stores (by omega) _ _ _ R2.out
  clear hwd hwd2
  have d1_0 : wd.cell? ⟨h_, 0, none⟩ = some (.int .i64 (elLo d pp)) := D1.cell 0
  have d1_1 : wd.cell? ⟨h_, 1, none⟩ = some (.int .i64 (elHi d pp)) := D1.cell 1
  try go_wp2_with fail
  refine bodyPost_ret (v := .tuple #[.agg #[.int .i64 (elLo d pp), .int .i64 (elHi d pp)], .int .i64 0]) (by simp [results, Try.results95, go_sem, *]) rfl ⟨rfl, RD⟩
set_option maxRecDepth 100000 in
set_option maxHeartbeats 4000000 in
theorem project_ok (x y d pp : Int) (w : World) (d0 : 0 ≤ d) (d1 : d < 131072) (p0 : 0 ≤ pp) (p1 : pp ≤ 1000) (h : spanOk x y) (h3 : spanOk (x + elLo d pp) (y + elHi d pp)) : Calls Try.prog 81 #[.agg #[.int .i64 x, .int .i64 y], .int .i64 d, .int .i64 pp] w fun e w' => e = .returned (.tuple #[.agg #[.int .i64 (x + elLo d pp), .int .i64 (y + elHi d pp)], .int .i64 0]) ∧ Below w.heap.size w w' := by
  have B0 := Lib.hid (el_bounds d pp d0 d1 p0 p1)
  have e1 : decide (spanOk x y) = true := decide_eq_true h
  have H := Lib.hid h
  clear h
  obtain ⟨u, hu⟩ : ∃ u, elLo d pp = u := ⟨_, rfl⟩
  obtain ⟨v, hv⟩ : ∃ v, elHi d pp = v := ⟨_, rfl⟩
  rw [hu, hv] at h3 B0 ⊢
  have HU := Lib.hid hu
  have HW := Lib.hid hv
  clear hu hv
  have S2 : Hid (spanOk u v) := by
    have g := B0.out
    unfold Hid spanOk tickOk; omega
  have H3 := Lib.hid h3
  clear h3
  go_enter Try.func81, Try.ntmps81
  go_upto_region 1 with fail
  obtain ⟨x1, s_, h_, ex1, es_, eh_⟩ : ∃ x1 s_ h_, x1 = (w.alloc (.cells #[.int .i64 x, .int .i64 y] 37)).alloc (.cells #[.int .i64 0, .int .i64 0] 37) ∧ s_ = w.heap.size ∧ h_ = w.heap.size + 1 := ⟨_, _, _, rfl, rfl, rfl⟩
  rw [← ex1, ← eh_, ← es_]
  have hbx : Below w.heap.size w x1 := by rw [ex1]; exact below_alloc2 _ _ _ 
  have o_S_H : s_ < h_ := by omega
  have g_S : w.heap.size ≤ s_ := by rw [es_]; exact Nat.le_refl _
  have BS := Lib.hid (show Blk x1 s_ 37 #[.int .i64 x, .int .i64 y] by rw [ex1, es_]; exact blk_new2_0 _ _ _ _ _ )
  have BH := Lib.hid (show Blk x1 h_ 37 #[.int .i64 0, .int .i64 0] by rw [ex1, eh_]; exact blk_new2_1 _ _ _ _ _ )
  have R2 := Lib.hid hbx
  have hz_x1 := R2.out.size
  clear hbx ex1 es_ eh_
  have kS_0 : x1.cell? ⟨s_, 0, none⟩ = some (.int .i64 x) := BS.out.cell 0
  have kS_1 : x1.cell? ⟨s_, 1, none⟩ = some (.int .i64 y) := BS.out.cell 1
  go_wp2_with fail
  refine (refSpanV x y _).mono ?_
  rintro e y3 ⟨rfl, hb⟩
  clear kS_0 kS_1
  have hbx : Below x1.heap.size x1 y3 := below_via (by go_grown) hb (by first | (simp; done) | (simp; omega))
  have BS := Lib.hid (BS.out.stays hbx)
  have BH := Lib.hid (BH.out.stays hbx)
  have R4 := Lib.hid (R2.out.trans (hbx.mono hz_x1))
  have hz_y3 := R4.out.size
  clear hb hbx  R2 hz_x1
  rw [e1]
  go_wp2_with fail
  refine (elapsed_ok d pp _ d0 d1 p0 p1).mono ?_
  rintro e y5 ⟨rfl, hb⟩
  have hbx : Below y3.heap.size y3 y5 := below_via (by go_grown) hb (by first | (simp; done) | (simp; omega))
  have BS := Lib.hid (BS.out.stays hbx)
  have BH := Lib.hid (BH.out.stays hbx)
  have R6 := Lib.hid (R4.out.trans (hbx.mono hz_y3))
  have hz_y5 := R6.out.size
  clear hb hbx  R4 hz_y3
  rw [HU.out, HW.out]
  go_upto_region 4 with fail
  obtain ⟨x7, e_, ex7, ee_⟩ : ∃ x7 e_, x7 = y5.alloc (.cells #[.int .i64 u, .int .i64 v] 37) ∧ e_ = y5.heap.size := ⟨_, _, rfl, rfl⟩
  rw [← ex7, ← ee_]
  have hbx : Below y5.heap.size y5 x7 := by rw [ex7]; exact below_alloc1 _ _ 
  have o_S_E : s_ < e_ := by rw [ee_]; exact BS.out.lt
  have o_H_E : h_ < e_ := by rw [ee_]; exact BH.out.lt
  have g_E : w.heap.size ≤ e_ := by rw [ee_]; exact hz_y5
  have BS := Lib.hid (BS.out.stays hbx)
  have BH := Lib.hid (BH.out.stays hbx)
  have BE := Lib.hid (show Blk x7 e_ 37 #[.int .i64 u, .int .i64 v] by rw [ex7, ee_]; exact blk_new1_0 _ _ _ )
  have R8 := Lib.hid (R6.out.trans (hbx.mono hz_y5))
  have hz_x7 := R8.out.size
  clear hbx ex7 ee_ R6 hz_y5
  have kS_0 : x7.cell? ⟨s_, 0, none⟩ = some (.int .i64 x) := BS.out.cell 0
  have kS_1 : x7.cell? ⟨s_, 1, none⟩ = some (.int .i64 y) := BS.out.cell 1
  have kE_0 : x7.cell? ⟨e_, 0, none⟩ = some (.int .i64 u) := BE.out.cell 0
  have kE_1 : x7.cell? ⟨e_, 1, none⟩ = some (.int .i64 v) := BE.out.cell 1
  go_wp2_with fail
  refine (refAdd_ok x y u v _ H.out S2.out H3.out).mono ?_
  rintro e y9 ⟨rfl, hb⟩
  clear kS_0 kS_1 kE_0 kE_1
  have hbx : Below x7.heap.size x7 y9 := below_via (by go_grown) hb (by first | (simp; done) | (simp; omega))
  have BS := Lib.hid (BS.out.stays hbx)
  have BH := Lib.hid (BH.out.stays hbx)
  have BE := Lib.hid (BE.out.stays hbx)
  have R10 := Lib.hid (R8.out.trans (hbx.mono hz_x7))
  have hz_y9 := R10.out.size
  clear hb hbx  R8 hz_x7
  have cH := BH.out.cell
  have zH := BH.out.frozen
  go_wp2
  clear zH cH
  generalize hwd : World.setCell _ ⟨h_, 1, none⟩ _ = wd
  have hwd2 : stores y9 h_ [.int .i64 (x + u), .int .i64 (y + v)] 0 = wd := hwd
  have D1 : Blk wd h_ 37 #[.int .i64 (x + u), .int .i64 (y + v)] := by rw [← hwd2]; exact BH.out.filled _ rfl
  have RD : Below w.heap.size w wd := by rw [← hwd2]; exact Below.stores (by omega) _ _ _ R10.out
  clear hwd hwd2
  have d1_0 : wd.cell? ⟨h_, 0, none⟩ = some (.int .i64 (x + u)) := D1.cell 0
  have d1_1 : wd.cell? ⟨h_, 1, none⟩ = some (.int .i64 (y + v)) := D1.cell 1
  try go_wp2_with fail
  refine bodyPost_ret (v := .tuple #[.agg #[.int .i64 (x + u), .int .i64 (y + v)], .int .i64 0]) (by simp [results, Try.results81, go_sem, *]) rfl ⟨rfl, RD⟩
set_option maxRecDepth 100000 in
set_option maxHeartbeats 4000000 in
theorem now_ok (ka x y pp d a : Int) (w : World) (d0 : 0 ≤ d) (d1 : d < 131072) (p0 : 0 ≤ pp) (p1 : pp ≤ 1000) (h : spanOk x y) (h3 : spanOk (x + elLo d pp) (y + elHi d pp)) (hk : knE ka x y pp 0 0 = 0) (ha : a = ka + d) (ht : tickOk a) (hka : tickOk ka) : Calls Try.prog 49 #[.agg #[.int .i64 ka, .int .i64 x, .int .i64 y, .int .i64 pp, .int .i64 0, .int .i64 0], .int .i64 a] w fun e w' => e = .returned (.tuple #[.agg #[.int .i64 (x + elLo d pp), .int .i64 (y + elHi d pp)], .int .i64 0]) ∧ Below w.heap.size w w' := by
  have H := Lib.hid h
  have H3 := Lib.hid h3
  have HK := Lib.hid hk
  have e1 : ¬ a < ka := by omega
  have e2 : a - ka = d := by omega
  have e3 : decide (tickOk a) = true := decide_eq_true ht
  have t1 := ht.1
  have t2 := ht.2
  have t3 := hka.1
  have t4 := hka.2
  clear h h3 hk ha ht hka
  go_enter Try.func49, Try.ntmps49
  go_upto_region 1 with fail
  obtain ⟨x1, k_, h_, ex1, ek_, eh_⟩ : ∃ x1 k_ h_, x1 = (w.alloc (.cells #[.int .i64 ka, .int .i64 x, .int .i64 y, .int .i64 pp, .int .i64 0, .int .i64 0] 39)).alloc (.cells #[.int .i64 0, .int .i64 0] 37) ∧ k_ = w.heap.size ∧ h_ = w.heap.size + 1 := ⟨_, _, _, rfl, rfl, rfl⟩
  rw [← ex1, ← eh_, ← ek_]
  have hbx : Below w.heap.size w x1 := by rw [ex1]; exact below_alloc2 _ _ _ 
  have o_K_H : k_ < h_ := by omega
  have g_K : w.heap.size ≤ k_ := by rw [ek_]; exact Nat.le_refl _
  have BK := Lib.hid (show Blk x1 k_ 39 #[.int .i64 ka, .int .i64 x, .int .i64 y, .int .i64 pp, .int .i64 0, .int .i64 0] by rw [ex1, ek_]; exact blk_new2_0 _ _ _ _ _ )
  have BH := Lib.hid (show Blk x1 h_ 37 #[.int .i64 0, .int .i64 0] by rw [ex1, eh_]; exact blk_new2_1 _ _ _ _ _ )
  have R2 := Lib.hid hbx
  have hz_x1 := R2.out.size
  clear hbx ex1 ek_ eh_
  have kK_0 : x1.cell? ⟨k_, 0, none⟩ = some (.int .i64 ka) := BK.out.cell 0
  have kK_1 : x1.cell? ⟨k_, 1, none⟩ = some (.int .i64 x) := BK.out.cell 1
  have kK_2 : x1.cell? ⟨k_, 2, none⟩ = some (.int .i64 y) := BK.out.cell 2
  have kK_3 : x1.cell? ⟨k_, 3, none⟩ = some (.int .i64 pp) := BK.out.cell 3
  have kK_4 : x1.cell? ⟨k_, 4, none⟩ = some (.int .i64 0) := BK.out.cell 4
  have kK_5 : x1.cell? ⟨k_, 5, none⟩ = some (.int .i64 0) := BK.out.cell 5
  go_wp2_with fail
  refine (refKnownV ka x y pp 0 0 _).mono ?_
  rintro e y3 ⟨rfl, hb⟩
  clear kK_0 kK_1 kK_2 kK_3 kK_4 kK_5
  have hbx : Below x1.heap.size x1 y3 := below_via (by go_grown) hb (by first | (simp; done) | (simp; omega))
  have BK := Lib.hid (BK.out.stays hbx)
  have BH := Lib.hid (BH.out.stays hbx)
  have R4 := Lib.hid (R2.out.trans (hbx.mono hz_x1))
  have hz_y3 := R4.out.size
  clear hb hbx  R2 hz_x1
  rw [HK.out]
  have kK_0 : y3.cell? ⟨k_, 0, none⟩ = some (.int .i64 ka) := BK.out.cell 0
  have kK_1 : y3.cell? ⟨k_, 1, none⟩ = some (.int .i64 x) := BK.out.cell 1
  have kK_2 : y3.cell? ⟨k_, 2, none⟩ = some (.int .i64 y) := BK.out.cell 2
  have kK_3 : y3.cell? ⟨k_, 3, none⟩ = some (.int .i64 pp) := BK.out.cell 3
  have kK_4 : y3.cell? ⟨k_, 4, none⟩ = some (.int .i64 0) := BK.out.cell 4
  have kK_5 : y3.cell? ⟨k_, 5, none⟩ = some (.int .i64 0) := BK.out.cell 5
  go_wp2_with fail
  refine (refTicksV a _).mono ?_
  rintro e q_ ⟨rfl, rfl⟩
  rw [e3]
  go_wp2_with fail
  refine (project_ok x y d pp _ d0 d1 p0 p1 H.out H3.out).mono ?_
  rintro e y5 ⟨rfl, hb⟩
  clear kK_0 kK_1 kK_2 kK_3 kK_4 kK_5
  have hbx : Below y3.heap.size y3 y5 := below_via (by go_grown) hb (by first | (simp; done) | (simp; omega))
  have BK := Lib.hid (BK.out.stays hbx)
  have BH := Lib.hid (BH.out.stays hbx)
  have R6 := Lib.hid (R4.out.trans (hbx.mono hz_y3))
  have hz_y5 := R6.out.size
  clear hb hbx  R4 hz_y3
  have cH := BH.out.cell
  have zH := BH.out.frozen
  go_wp2
  clear zH cH
  generalize hwd : World.setCell _ ⟨h_, 1, none⟩ _ = wd
  have hwd2 : stores y5 h_ [.int .i64 (x + elLo d pp), .int .i64 (y + elHi d pp)] 0 = wd := hwd
  have D1 : Blk wd h_ 37 #[.int .i64 (x + elLo d pp), .int .i64 (y + elHi d pp)] := by rw [← hwd2]; exact BH.out.filled _ rfl
  have RD : Below w.heap.size w wd := by rw [← hwd2]; exact Below.stores (by omega) _ _ _ R6.out
  clear hwd hwd2
  have d1_0 : wd.cell? ⟨h_, 0, none⟩ = some (.int .i64 (x + elLo d pp)) := D1.cell 0
  have d1_1 : wd.cell? ⟨h_, 1, none⟩ = some (.int .i64 (y + elHi d pp)) := D1.cell 1
  try go_wp2_with fail
  refine bodyPost_ret (v := .tuple #[.agg #[.int .i64 (x + elLo d pp), .int .i64 (y + elHi d pp)], .int .i64 0]) (by simp [results, Try.results49, go_sem, *]) rfl ⟨rfl, RD⟩
set_option maxRecDepth 100000 in
set_option maxHeartbeats 4000000 in
theorem width_ok (x y : Int) (w : World) (h : spanOk x y) : Calls Try.prog 46 #[.agg #[.int .i64 x, .int .i64 y]] w fun e w' => e = .returned (.int .i64 (y - x)) ∧ Below w.heap.size w w' := by
  have e1 : decide (spanOk x y) = true := decide_eq_true h
  have t1 : -1152921504606846976 ≤ x ∧ x ≤ 1152921504606846976 := h.1
  have t2 : -1152921504606846976 ≤ y ∧ y ≤ 1152921504606846976 := h.2.1
  obtain ⟨a1, a2⟩ := t1
  obtain ⟨a3, a4⟩ := t2
  clear h
  go_enter Try.func46, Try.ntmps46
  go_upto_region 1 with fail
  obtain ⟨x1, s_, ex1, es_⟩ : ∃ x1 s_, x1 = w.alloc (.cells #[.int .i64 x, .int .i64 y] 37) ∧ s_ = w.heap.size := ⟨_, _, rfl, rfl⟩
  rw [← ex1, ← es_]
  have hbx : Below w.heap.size w x1 := by rw [ex1]; exact below_alloc1 _ _ 
  have g_S : w.heap.size ≤ s_ := by rw [es_]; exact Nat.le_refl _
  have BS := Lib.hid (show Blk x1 s_ 37 #[.int .i64 x, .int .i64 y] by rw [ex1, es_]; exact blk_new1_0 _ _ _ )
  have R2 := Lib.hid hbx
  have hz_x1 := R2.out.size
  clear hbx ex1 es_
  have kS_0 : x1.cell? ⟨s_, 0, none⟩ = some (.int .i64 x) := BS.out.cell 0
  have kS_1 : x1.cell? ⟨s_, 1, none⟩ = some (.int .i64 y) := BS.out.cell 1
  go_wp2_with fail
  refine (refSpanV x y _).mono ?_
  rintro e y3 ⟨rfl, hb⟩
  clear kS_0 kS_1
  have hbx : Below x1.heap.size x1 y3 := below_via (by go_grown) hb (by first | (simp; done) | (simp; omega))
  have BS := Lib.hid (BS.out.stays hbx)
  have R4 := Lib.hid (R2.out.trans (hbx.mono hz_x1))
  have hz_y3 := R4.out.size
  clear hb hbx  R2 hz_x1
  rw [e1]
  have kS_0 : y3.cell? ⟨s_, 0, none⟩ = some (.int .i64 x) := BS.out.cell 0
  have kS_1 : y3.cell? ⟨s_, 1, none⟩ = some (.int .i64 y) := BS.out.cell 1
  go_wp2
  go_ret
  exact ⟨rfl, R4.out⟩
set_option maxRecDepth 100000 in
set_option maxHeartbeats 4000000 in
theorem holds_yes (x y t : Int) (w : World) (h : spanOk x y) (h1 : x ≤ t) (h2 : t ≤ y) : Calls Try.prog 47 #[.agg #[.int .i64 x, .int .i64 y], .int .i64 t] w fun e w' => e = .returned (.bool true) ∧ Below w.heap.size w w' := by
  have e1 : decide (spanOk x y) = true := decide_eq_true h
  clear h
  go_enter Try.func47, Try.ntmps47
  go_upto_region 1 with fail
  obtain ⟨x1, s_, ex1, es_⟩ : ∃ x1 s_, x1 = w.alloc (.cells #[.int .i64 x, .int .i64 y] 37) ∧ s_ = w.heap.size := ⟨_, _, rfl, rfl⟩
  rw [← ex1, ← es_]
  have hbx : Below w.heap.size w x1 := by rw [ex1]; exact below_alloc1 _ _ 
  have g_S : w.heap.size ≤ s_ := by rw [es_]; exact Nat.le_refl _
  have BS := Lib.hid (show Blk x1 s_ 37 #[.int .i64 x, .int .i64 y] by rw [ex1, es_]; exact blk_new1_0 _ _ _ )
  have R2 := Lib.hid hbx
  have hz_x1 := R2.out.size
  clear hbx ex1 es_
  have kS_0 : x1.cell? ⟨s_, 0, none⟩ = some (.int .i64 x) := BS.out.cell 0
  have kS_1 : x1.cell? ⟨s_, 1, none⟩ = some (.int .i64 y) := BS.out.cell 1
  go_wp2_with fail
  refine (refSpanV x y _).mono ?_
  rintro e y3 ⟨rfl, hb⟩
  clear kS_0 kS_1
  have hbx : Below x1.heap.size x1 y3 := below_via (by go_grown) hb (by first | (simp; done) | (simp; omega))
  have BS := Lib.hid (BS.out.stays hbx)
  have R4 := Lib.hid (R2.out.trans (hbx.mono hz_x1))
  have hz_y3 := R4.out.size
  clear hb hbx  R2 hz_x1
  rw [e1]
  have kS_0 : y3.cell? ⟨s_, 0, none⟩ = some (.int .i64 x) := BS.out.cell 0
  have kS_1 : y3.cell? ⟨s_, 1, none⟩ = some (.int .i64 y) := BS.out.cell 1
  go_wp2
  go_ret
  exact ⟨rfl, R4.out⟩
end Go.Proofs.Ytbjmojajhkhekaa
